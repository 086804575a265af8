/-
  Each function returns what its partial function of plain data says, where that says something (printed by wip/tools/gen.py).
-/
import Derived.Test.YtllnemgkfdgljaaPvW
import Derived.Test.YtllnemgkfdgljaaProg
set_option linter.unusedSectionVars false
set_option linter.unusedSimpArgs false
namespace Go.Proofs.Ytllnemgkfdgljaa
open Go.AM
set_option maxHeartbeats 4000000
set_option maxRecDepth 20000
set_option linter.unusedVariables false


theorem adjointlaw9_PointsOrders_ok (fu : Nat) (p0 : SPoints) (n0 : Int) (x0 : (List Int)) (r : Bool) (H : F.adjointlaw9_PointsOrders fu p0 n0 x0 = some r) : GM Try.prog 6 [.agg [.sl (List.length p0.Box) (encs p0.Box), .sl (List.length p0.Rows) (encs p0.Rows)], .val (.int .i64 n0), .sl (List.length x0) (encs x0)] [] (fun g st => g = .val (.bool r) ∧ st = []) := by
  unfold F.adjointlaw9_PointsOrders at H
  refine GM.of (N := 54) Try.func6 rfl rfl rfl (fun cx hro => ?_)
  change GW _ _ _ _ _ _
  refine GW.seq ?_
  refine GW.region ?_
  refine GL.e1 (W := []) (EF.box 0 rfl rfl rfl) rfl rfl ?_
  refine GL.py (PY.assign rfl) rfl rfl ?_
  refine GL.nil ?_
  change GW _ _ _ _ _ _
  refine GW.seq ?_
  obtain ⟨r1, hr1, H⟩ := bind_some H
  refine GW.region ?_
  refine GL.y (YL.loadAgg rfl rfl rfl Try.isAgg25 Try.sizeOf25 (Nat.le_of_ble_eq_true rfl) rfl) rfl rfl ?_
  refine GL.py (PY.move rfl) rfl rfl ?_
  refine GL.e (W := []) (EF.callA Try.call21 rfl (mapO_cons rfl (mapO_cons rfl rfl)) (points_Nth_ok fu p0 n0 r1 hr1) (by rintro _ _ ⟨rfl, rfl⟩; exact ⟨rfl, rfl⟩)) rfl rfl ?_
  rintro _ ⟨_, _, ⟨rfl, rfl⟩, rfl⟩
  refine GL.py (PY.move rfl) rfl rfl ?_
  refine GL.py (PY.extract rfl rfl) rfl rfl ?_
  refine GL.py (PY.extract rfl rfl) rfl rfl ?_
  refine GL.py (PY.assign rfl) rfl rfl ?_
  refine GL.py (PY.assign rfl) rfl rfl ?_
  refine GL.nil ?_
  change GW _ _ _ _ _ _
  refine GW.seq ?_
  obtain ⟨r3, hr3, H⟩ := bind_some H
  refine GW.region ?_
  refine GL.y (YL.loadAgg rfl rfl rfl Try.isAgg25 Try.sizeOf25 (Nat.le_of_ble_eq_true rfl) rfl) rfl rfl ?_
  refine GL.py (PY.move rfl) rfl rfl ?_
  refine GL.e (W := []) (EF.call 4 Try.call22 rfl (mapO_cons rfl (mapO_cons rfl rfl)) (adjointref9_Nth_ok fu p0 n0 r3 hr3) (by rintro _ _ ⟨rfl, rfl⟩; rfl)) rfl rfl ?_
  rintro _ ⟨_, _, ⟨rfl, rfl⟩, rfl⟩
  refine GL.py (PY.move rfl) rfl rfl ?_
  refine GL.py (PY.extract rfl rfl) rfl rfl ?_
  refine GL.py (PY.extract rfl rfl) rfl rfl ?_
  refine GL.py (PY.assign rfl) rfl rfl ?_
  refine GL.py (PY.assign rfl) rfl rfl ?_
  refine GL.nil ?_
  change GW _ _ _ _ _ _
  refine GW.seq ?_
  refine GW.seq ?_
  obtain ⟨r5, hr5, H⟩ := bind_some H
  obtain ⟨e5, he5, H⟩ := bind_some H
  obtain ⟨i6, rfl⟩ : ∃ z, z = e5 := ⟨_, rfl⟩
  refine GW.mono (Q := QB .normal (fun (q : Bool) => (⟨[(2, .sl (List.length x0) (encs x0)), (3, .loc 0 0), (33, .val (.bool q))], [(0, ⟨25, false, true, false, 0, [.sl (List.length p0.Box) (encs p0.Box), .sl (List.length p0.Rows) (encs p0.Rows)], none⟩)], []⟩ : St)) i6) ?_ ?_
  · have H := he5
    refine GW.region ?_
    refine GL.py (PY.move rfl) rfl rfl ?_
    refine GL.py (PY.move rfl) rfl rfl ?_
    refine GL.e (W := []) (EF.call 4 Try.call20 rfl (mapO_cons rfl (mapO_cons rfl rfl)) (adjointref2_SameList_ok fu r1.1 r3.1 r5 hr5) (by rintro _ _ ⟨rfl, rfl⟩; rfl)) rfl rfl ?_
    rintro _ ⟨_, _, ⟨rfl, rfl⟩, rfl⟩
    refine GL.py (PY.un rfl rfl) rfl rfl ?_
    refine GL.py (PY.move rfl) rfl rfl ?_
    refine (Bool.eq_false_or_eq_true (!r5)).elim (fun hg1 => ?_) (fun hg1 => ?_)
    · have H := condT hg1 H
      refine GL.lit 29 rfl hg1 ?_
      refine GL.nou rfl rfl ?_
      refine GL.nou rfl rfl ?_
      refine GL.nou rfl rfl ?_
      refine GL.py (PY.pickT rfl rfl) rfl rfl ?_
      refine GL.nil ?_
      cases H
      exact And.intro rfl ⟨⟨rfl, rfl, rfl, trivial⟩, ⟨rfl, trivial⟩, rfl⟩
    · have H := condF hg1 H
      refine GL.lit 29 rfl hg1 ?_
      refine GL.py (PY.move rfl) rfl rfl ?_
      refine GL.py (PY.move rfl) rfl rfl ?_
      refine GL.py (PY.bin rfl rfl rfl) rfl rfl ?_
      refine GL.py (PY.pickF rfl rfl) rfl rfl ?_
      refine GL.nil ?_
      cases H
      exact And.intro rfl ⟨⟨rfl, rfl, rfl, trivial⟩, ⟨rfl, trivial⟩, rfl⟩
  · rintro _ s2 ⟨rfl, hs⟩
    change GW _ _ _ _ _ _
    refine GW.weak _ hs ?_
    refine GW.weak ⟨[(2, .sl (List.length x0) (encs x0)), (3, .loc 0 0), (33, .val (.bool i6))], [(0, ⟨25, false, true, false, 0, [.sl (List.length p0.Box) (encs p0.Box), .sl (List.length p0.Rows) (encs p0.Rows)], none⟩)], []⟩ ⟨⟨rfl, rfl, rfl, trivial⟩, ⟨rfl, trivial⟩, rfl⟩ ?_
    change GW _ _ _ _ _ _
    refine GW.cond rfl (fun hc2 => ?_) (fun hc2 => ?_)
    · have H := condT hc2 H
      refine GW.seq ?_
      refine GW.region ?_
      refine GL.py (PY.assign rfl) rfl rfl ?_
      refine GL.nil ?_
      change GW _ _ _ _ _ _
      refine GW.ret ?_
      have H := Option.some.inj H
      subst H
      exact RetQ.mk (.inl rfl) [.val (.bool false)] _ [] ⟨Res.tmp rfl, trivial⟩ trivial rfl ⟨rfl, rfl⟩
    · have H := condF hc2 H
      refine GW.skip ?_
      change GW _ _ _ _ _ _
      refine GW.seq ?_
      obtain ⟨r8, hr8, H⟩ := bind_some H
      refine GW.region ?_
      refine GL.y (YL.loadAgg rfl rfl rfl Try.isAgg25 Try.sizeOf25 (Nat.le_of_ble_eq_true rfl) rfl) rfl rfl ?_
      refine GL.py (PY.move rfl) rfl rfl ?_
      refine GL.e (W := []) (EF.call 4 Try.call23 rfl (mapO_cons rfl (mapO_cons rfl rfl)) (points_Ahead_ok fu p0 x0 r8 hr8) (by rintro _ _ ⟨rfl, rfl⟩; rfl)) rfl rfl ?_
      rintro _ ⟨_, _, ⟨rfl, rfl⟩, rfl⟩
      refine GL.py (PY.move rfl) rfl rfl ?_
      refine GL.py (PY.extract rfl rfl) rfl rfl ?_
      refine GL.py (PY.extract rfl rfl) rfl rfl ?_
      refine GL.py (PY.assign rfl) rfl rfl ?_
      refine GL.py (PY.assign rfl) rfl rfl ?_
      refine GL.nil ?_
      change GW _ _ _ _ _ _
      refine GW.seq ?_
      obtain ⟨r10, hr10, H⟩ := bind_some H
      refine GW.region ?_
      refine GL.y (YL.loadAgg rfl rfl rfl Try.isAgg25 Try.sizeOf25 (Nat.le_of_ble_eq_true rfl) rfl) rfl rfl ?_
      refine GL.py (PY.move rfl) rfl rfl ?_
      refine GL.e (W := []) (EF.call 4 Try.call24 rfl (mapO_cons rfl (mapO_cons rfl rfl)) (adjointref9_Ahead_ok fu p0 x0 r10 hr10) (by rintro _ _ ⟨rfl, rfl⟩; rfl)) rfl rfl ?_
      rintro _ ⟨_, _, ⟨rfl, rfl⟩, rfl⟩
      refine GL.py (PY.move rfl) rfl rfl ?_
      refine GL.py (PY.extract rfl rfl) rfl rfl ?_
      refine GL.py (PY.extract rfl rfl) rfl rfl ?_
      refine GL.py (PY.assign rfl) rfl rfl ?_
      refine GL.py (PY.assign rfl) rfl rfl ?_
      refine GL.nil ?_
      change GW _ _ _ _ _ _
      refine GW.seq ?_
      obtain ⟨e4, he4, H⟩ := bind_some H
      obtain ⟨i12, rfl⟩ : ∃ z, z = e4 := ⟨_, rfl⟩
      refine GW.mono (Q := QB .normal (fun (q : Bool) => (⟨[(6, .val (.bool q))], [], []⟩ : St)) i12) ?_ ?_
      · have H := he4
        refine GW.region ?_
        refine GL.py (PY.move rfl) rfl rfl ?_
        refine GL.py (PY.move rfl) rfl rfl ?_
        refine GL.py (PY.bin rfl rfl rfl) rfl rfl ?_
        refine GL.py (PY.move rfl) rfl rfl ?_
        refine (Bool.eq_false_or_eq_true (r8.1 == r10.1)).elim (fun hg3 => ?_) (fun hg3 => ?_)
        · have H := condT hg3 H
          refine GL.lit 49 rfl hg3 ?_
          refine GL.py (PY.move rfl) rfl rfl ?_
          refine GL.py (PY.move rfl) rfl rfl ?_
          refine GL.py (PY.bin rfl rfl rfl) rfl rfl ?_
          refine GL.py (PY.pickT rfl rfl) rfl rfl ?_
          refine GL.py (PY.assign rfl) rfl rfl ?_
          refine GL.nil ?_
          cases H
          exact And.intro rfl ⟨⟨rfl, trivial⟩, trivial, rfl⟩
        · have H := condF hg3 H
          refine GL.lit 49 rfl hg3 ?_
          refine GL.nou rfl rfl ?_
          refine GL.nou rfl rfl ?_
          refine GL.nou rfl rfl ?_
          refine GL.py (PY.pickF rfl rfl) rfl rfl ?_
          refine GL.py (PY.assign rfl) rfl rfl ?_
          refine GL.nil ?_
          cases H
          exact And.intro rfl ⟨⟨rfl, trivial⟩, trivial, rfl⟩
      · rintro _ s2 ⟨rfl, hs⟩
        change GW _ _ _ _ _ _
        refine GW.weak _ hs ?_
        refine GW.weak ⟨[(6, .val (.bool i12))], [], []⟩ ⟨⟨rfl, trivial⟩, trivial, rfl⟩ ?_
        change GW _ _ _ _ _ _
        refine GW.ret ?_
        have H := Option.some.inj H
        subst H
        exact RetQ.mk (.inl rfl) [.val (.bool i12)] _ [] ⟨Res.tmp rfl, trivial⟩ trivial rfl ⟨rfl, rfl⟩

noncomputable def points_Count_y1_lp (fn : FuncId) (j : Option Code) : Lp := ⟨fn, 17, [5], #[13], cAsg (cBlk (cSeqR (cSeqL (cSeqR (cSeqR (cSeqR (cOf Try.f15))))))), cBody (cBlk (cSeqR (cSeqL (cSeqR (cSeqR (cSeqR (cOf Try.f15))))))), j⟩
theorem points_Count_y1_ok (fn : FuncId) (fu : Nat) (a0 : (List Int)) (c0 : Int) (r : Int) (H : F.points_Count_y1 fu a0 c0 = some r) : GY Try.prog (points_Count_y1_lp fn none) [.loc 1000 0] [.sl (List.length a0) (encs a0)] [(1000, ⟨3, false, false, false, 0, [.val (.int .i64 c0)], none⟩)] (fun j st => j = none ∧ st = [(1000, ⟨3, false, false, false, 0, [.val (.int .i64 r)], none⟩)]) := by
  unfold F.points_Count_y1 at H
  refine GY.of rfl rfl (fun cx => ?_)
  change GW _ 17 _ _ _ _
  refine GW.weak ⟨[(5, .loc 1000 0), (13, .sl (List.length a0) (encs a0))], [(1000, ⟨3, false, false, false, 0, [.val (.int .i64 c0)], none⟩)], []⟩ ⟨⟨rfl, rfl, trivial⟩, ⟨rfl, trivial⟩, rfl⟩ ?_
  refine GW.skip ?_
  refine ⟨rfl, fun cx2 => ?_⟩
  change GW _ 17 _ _ _ _
  change GW _ _ _ _ _ _
  refine GW.block ?_
  refine GW.region ?_
  refine GL.y (YL.loadN rfl rfl rfl Try.isAgg3 rfl rfl) rfl rfl ?_
  refine GL.py (PY.bin rfl rfl rfl) rfl rfl ?_
  refine GL.e0 (EF.storeN (W := [1000]) (cells' := [.val (.int .i64 (IntKind.i64.wrap (c0 + 1)))]) rfl rfl rfl rfl rfl rfl rfl rfl Try.sizeOf3 (Nat.le_of_ble_eq_true rfl) rfl rfl) rfl ?_
  refine GL.nil ?_
  have H := Option.some.inj H
  subst H
  exact ⟨rfl, [(1000, ⟨3, false, false, false, 0, [.val (.int .i64 (IntKind.i64.wrap (c0 + 1)))], none⟩)], ⟨rfl, trivial⟩, rfl, rfl⟩

theorem points_walk_3_ok (fn : FuncId) (fu : Nat) : ∀ (p0 : SPoints) (k0 : Int) (l0 : (List Int)) (c0 : Int) (r : (Bool × (List Int) × Int)) (H : F.points_walk_3 fu p0 k0 l0 c0 = some r), GM Try.prog 39 [.agg [.sl (List.length p0.Box) (encs p0.Box), .sl (List.length p0.Rows) (encs p0.Rows)], .osl 1000 (Enc.sz Int) 0 (List.length l0), .val (.int .i64 k0), .yld 1001] [(1000, ⟨3, true, false, false, Enc.sz Int, encs l0, none⟩), (1001, (loopB [.loc 1002 0] (points_Count_y1_lp fn (jmpc 0 Jp.go)))), (1002, ⟨3, false, false, false, 0, [.val (.int .i64 c0)], none⟩)] (fun g st => g = .val (.bool r.1) ∧ st = [(1000, ⟨3, true, false, true, Enc.sz Int, encs r.2.1, none⟩), (1001, (loopB [.loc 1002 0] (points_Count_y1_lp fn (jmpc 0 Jp.go)))), (1002, ⟨3, false, false, false, 0, [.val (.int .i64 r.2.2)], none⟩)]) := by
  induction fu with
  | zero => intro p0 k0 l0 c0 r H; cases H
  | succ fu ih =>
    intro p0 k0 l0 c0 r H
    replace H : F.points_walk_3_body fu (F.points_walk_3 fu) p0 k0 l0 c0 = some r := H
    unfold F.points_walk_3_body at H
    refine GM.of (N := 48) Try.func39 rfl rfl rfl (fun cx hro => ?_)
    change GW _ _ _ _ _ _
    refine GW.refresh (α := Int) (l := l0) 1000 rfl rfl rfl ?_
    refine GW.seq ?_
    refine GW.region ?_
    refine GL.e1 (W := []) (EF.box 0 rfl rfl rfl) rfl rfl ?_
    refine GL.py (PY.assign rfl) rfl rfl ?_
    refine GL.nil ?_
    change GW _ _ _ _ _ _
    refine GW.seq ?_
    refine GW.seq ?_
    obtain ⟨r1, hr1, H⟩ := bind_some H
    refine GW.region ?_
    refine GL.y (YL.loadAgg rfl rfl rfl Try.isAgg25 Try.sizeOf25 (Nat.le_of_ble_eq_true rfl) rfl) rfl rfl ?_
    refine GL.py (PY.move rfl) rfl rfl ?_
    refine GL.py (PY.move rfl) rfl rfl ?_
    refine GL.e (W := []) (EF.call 4 Try.call46 rfl (mapO_cons rfl (mapO_cons (view_vec (α := Int) (l := l0) rfl rfl rfl) (mapO_cons rfl rfl))) (points_hopeless_ok fu p0 l0 k0 r1 hr1) (by rintro _ _ ⟨rfl, rfl⟩; rfl)) rfl rfl ?_
    rintro _ ⟨_, _, ⟨rfl, rfl⟩, rfl⟩
    refine GL.nil ?_
    change GW _ _ _ _ _ _
    refine GW.cond rfl (fun hc1 => ?_) (fun hc1 => ?_)
    · have H := condT hc1 H
      refine GW.seq ?_
      refine GW.region ?_
      refine GL.py (PY.assign rfl) rfl rfl ?_
      refine GL.nil ?_
      change GW _ _ _ _ _ _
      refine GW.ret ?_
      have H := Option.some.inj H
      subst H
      exact RetQ.mk (.inl rfl) [.val (.bool true)] _ [(1000, ⟨3, true, false, true, Enc.sz Int, encs l0, none⟩), (1001, (loopB [.loc 1002 0] (points_Count_y1_lp fn (jmpc 0 Jp.go)))), (1002, ⟨3, false, false, false, 0, [.val (.int .i64 c0)], none⟩)] ⟨Res.tmp rfl, trivial⟩ ⟨rfl, rfl, rfl, trivial⟩ rfl ⟨rfl, rfl⟩
    · have H := condF hc1 H
      refine GW.skip ?_
      change GW _ _ _ _ _ _
      refine GW.seq ?_
      refine GW.seq ?_
      refine GW.region ?_
      refine GL.py (PY.move rfl) rfl rfl ?_
      refine GL.py (PY.field rfl rfl Try.underlying25 rfl Try.sizeOf22 (by decide)) rfl rfl ?_
      refine GL.y (YL.loadN rfl rfl rfl Try.isAgg22 rfl rfl) rfl rfl ?_
      refine GL.py (PY.len rfl rfl Try.underlying22) rfl rfl ?_
      refine GL.py (PY.bin rfl rfl rfl) rfl rfl ?_
      refine GL.nil ?_
      change GW _ _ _ _ _ _
      refine GW.cond rfl (fun hc2 => ?_) (fun hc2 => ?_)
      · have H := condT hc2 H
        refine GW.seq ?_
        obtain ⟨r3, hr3, H⟩ := bind_some H
        obtain ⟨r4, hr4, H⟩ := bind_some H
        refine GW.region ?_
        refine GL.py (PY.move rfl) rfl rfl ?_
        refine GL.py (PY.move rfl) rfl rfl ?_
        refine GL.e1 (EF.lend (s1 := ⟨[(8, .val (.bool false)), (18, .yld 1001), (20, .osl 203 (Enc.sz Int) 0 (List.length r3))], [(203, ⟨3, true, true, true, Enc.sz Int, encs r3, none⟩), (1000, ⟨3, true, false, true, Enc.sz Int, encs l0, none⟩), (1001, (loopB [.loc 1002 0] (points_Count_y1_lp fn (jmpc 0 Jp.go)))), (1002, ⟨3, false, false, false, 0, [.val (.int .i64 c0)], none⟩)], []⟩) (W := []) [] true [203] Try.call26 rfl (lend_cons (view_vec (α := Int) (l := l0) rfl rfl rfl) rfl) rfl rfl (slices_Clone_ok fu l0 r3 hr3) (by rintro _ _ ⟨rfl, rfl⟩; exact ⟨_, _, rfl, rfl, ⟨⟨rfl, rfl, rfl, trivial⟩, ⟨rfl, rfl, rfl, rfl, trivial⟩, rfl⟩⟩) rfl) rfl rfl ?_
        refine GL.freeze ⟨[(8, .val (.bool false)), (18, .yld 1001), (20, .fr (.sl (List.length r3) (encs r3)))], [(1000, ⟨3, true, false, true, Enc.sz Int, encs l0, none⟩), (1001, (loopB [.loc 1002 0] (points_Count_y1_lp fn (jmpc 0 Jp.go)))), (1002, ⟨3, false, false, false, 0, [.val (.int .i64 c0)], none⟩)], []⟩ ⟨⟨_, rfl, rfl, rfl, rfl, rfl, rfl, rfl, .inl ⟨rfl, rfl⟩⟩, ⟨_, rfl, rfl, rfl, rfl, rfl, rfl, rfl, .inr ⟨rfl, ⟨.inr rfl, trivial⟩⟩⟩, ⟨_, rfl, rfl, rfl, rfl, rfl, rfl, rfl, .inr ⟨rfl, ⟨.inr rfl, trivial⟩⟩⟩, trivial⟩ ⟨⟨_, rfl, .inr rfl⟩, ⟨_, rfl, .inr rfl⟩, ⟨_, rfl, .inl (fz_vec (α := Int) (l := r3) rfl rfl rfl rfl rfl rfl)⟩, trivial⟩ ?_
        refine GL.yld [1002] [1002] rfl rfl rfl rfl rfl rfl rfl rfl rfl rfl rfl rfl rfl (points_Count_y1_ok fn fu r3 c0 r4 hr4) rfl rfl ?_
        rintro _ _ ⟨rfl, rfl⟩
        refine ⟨_, rfl, _, rfl, rfl, _, rfl, ?_⟩
        refine GL.weak ⟨[(8, .val (.bool false)), (21, .val (.bool true))], [(1000, ⟨3, true, false, true, Enc.sz Int, encs l0, none⟩), (1001, (loopB [.loc 1002 0] (points_Count_y1_lp fn (jmpc 0 Jp.go)))), (1002, ⟨3, false, false, false, 0, [.val (.int .i64 r4)], none⟩)], []⟩ ⟨⟨rfl, rfl, trivial⟩, ⟨rfl, rfl, rfl, trivial⟩, rfl⟩ ?_
        refine GL.py (PY.assign rfl) rfl rfl ?_
        refine GL.nil ?_
        change GW _ _ _ _ _ _
        refine GW.ret ?_
        have H := Option.some.inj H
        subst H
        exact RetQ.mk (.inl rfl) [.val (.bool true)] _ [(1000, ⟨3, true, false, true, Enc.sz Int, encs l0, none⟩), (1001, (loopB [.loc 1002 0] (points_Count_y1_lp fn (jmpc 0 Jp.go)))), (1002, ⟨3, false, false, false, 0, [.val (.int .i64 r4)], none⟩)] ⟨Res.tmp rfl, trivial⟩ ⟨rfl, rfl, rfl, trivial⟩ rfl ⟨rfl, rfl⟩
      · have H := condF hc2 H
        refine GW.skip ?_
        change GW _ _ _ _ _ _
        refine GW.seq ?_
        refine GW.seq ?_
        obtain ⟨x5, hx5, H⟩ := bind_some H
        refine GW.region ?_
        refine GL.py (PY.move rfl) rfl rfl ?_
        refine GL.py (PY.move rfl) rfl rfl ?_
        refine GL.py (PY.index rfl rfl rfl (idx_spec hx5).1 (idx_spec hx5).2.1 Try.underlying22 Try.sizeOf3) rfl rfl ?_
        refine GL.e0 (ET.set (α := Int) (x := 0) (W := [1000]) rfl rfl rfl rfl rfl rfl rfl rfl rfl (idx_spec hx5).1 (idx_spec hx5).2.1 Try.sizeOf3 rfl) rfl ?_
        refine GL.resl 1 rfl (show List.length l0 = List.length (List.set l0 (Int.toNat k0) 0) from List.length_set.symm) ?_
        refine GL.resl 22 rfl (show List.length l0 = List.length (List.set l0 (Int.toNat k0) 0) from List.length_set.symm) ?_
        refine GL.nil ?_
        change GW _ _ _ _ _ _
        refine GW.block ?_
        obtain ⟨e7, he7, Hb, Hr⟩ := bindE_some H
        refine GW.weak ((fun (q : (List Int) × Int) => (⟨[(1, .osl 1000 (Enc.sz Int) 0 (List.length q.1)), (2, .val (.int .i64 k0)), (3, .yld 1001), (4, .loc 0 0)], [(0, ⟨25, false, true, false, 0, [.sl (List.length p0.Box) (encs p0.Box), .sl (List.length p0.Rows) (encs p0.Rows)], none⟩), (1000, ⟨3, true, false, true, Enc.sz Int, encs q.1, none⟩), (1001, (loopB [.loc 1002 0] (points_Count_y1_lp fn (jmpc 0 Jp.go)))), (1002, ⟨3, false, false, false, 0, [.val (.int .i64 q.2)], none⟩)], []⟩ : St)) (List.set l0 (Int.toNat k0) 0, c0)) ⟨⟨rfl, rfl, rfl, rfl, trivial⟩, ⟨rfl, rfl, rfl, rfl, trivial⟩, rfl⟩ ?_
        refine GW.loopF (fun (q : (List Int) × Int) => (⟨[(1, .osl 1000 (Enc.sz Int) 0 (List.length q.1)), (2, .val (.int .i64 k0)), (3, .yld 1001), (4, .loc 0 0)], [(0, ⟨25, false, true, false, 0, [.sl (List.length p0.Box) (encs p0.Box), .sl (List.length p0.Rows) (encs p0.Rows)], none⟩), (1000, ⟨3, true, false, true, Enc.sz Int, encs q.1, none⟩), (1001, (loopB [.loc 1002 0] (points_Count_y1_lp fn (jmpc 0 Jp.go)))), (1002, ⟨3, false, false, false, 0, [.val (.int .i64 q.2)], none⟩)], []⟩ : St)) (QJ (.exit 0) (fun (q : (List Int) × Int) => (⟨[], [(1000, ⟨3, true, false, true, Enc.sz Int, encs q.1, none⟩), (1001, (loopB [.loc 1002 0] (points_Count_y1_lp fn (jmpc 0 Jp.go)))), (1002, ⟨3, false, false, false, 0, [.val (.int .i64 q.2)], none⟩)], []⟩ : St)) (fun r2 _ s2 => RetQ Try.prog Try.f39 (fun g st => g = .val (.bool r2.1) ∧ st = [(1000, ⟨3, true, false, true, Enc.sz Int, encs r2.2.1, none⟩), (1001, (loopB [.loc 1002 0] (points_Count_y1_lp fn (jmpc 0 Jp.go)))), (1002, ⟨3, false, false, false, 0, [.val (.int .i64 r2.2.2)], none⟩)]) .ret s2)) he7 (fun x o hb => ?_) (fun ex s2 _ hx => ?_)
        · obtain ⟨x6, c7⟩ := x
          have H := hb
          unfold F.points_walk_3_l1 at H
          try dsimp only at H
          refine GW.weak ⟨[(1, .osl 1000 (Enc.sz Int) 0 (List.length x6)), (2, .val (.int .i64 k0)), (3, .yld 1001), (4, .loc 0 0)], [(0, ⟨25, false, true, false, 0, [.sl (List.length p0.Box) (encs p0.Box), .sl (List.length p0.Rows) (encs p0.Rows)], none⟩), (1000, ⟨3, true, false, true, Enc.sz Int, encs x6, none⟩), (1001, (loopB [.loc 1002 0] (points_Count_y1_lp fn (jmpc 0 Jp.go)))), (1002, ⟨3, false, false, false, 0, [.val (.int .i64 c7)], none⟩)], []⟩ ⟨⟨rfl, rfl, rfl, rfl, trivial⟩, ⟨rfl, rfl, rfl, rfl, trivial⟩, rfl⟩ ?_
          refine GW.seq ?_
          refine GW.seq ?_
          obtain ⟨x10, hx10, H⟩ := bind_some H
          obtain ⟨x11, hx11, H⟩ := bind_some H
          refine GW.draws [] mixed ?_
          change GH1 _ _ _ _ _ _ 10 _ _
          refine GH1.take 0 rfl (by decide +kernel) (by decide +kernel) (by decide +kernel) rfl rfl (by decide) ((PY.move rfl).yield _) ?_
          refine GH1.take 1 rfl (by decide +kernel) (by decide +kernel) (by decide +kernel) rfl rfl (by decide) ((PY.move rfl).yield _) ?_
          refine GH1.take 2 rfl (by decide +kernel) (by decide +kernel) (by decide +kernel) rfl rfl (by decide) ((PY.index rfl rfl rfl (idx_spec hx10).1 (idx_spec hx10).2.1 Try.underlying22 Try.sizeOf3).yield _) ?_
          refine GH1.take 3 rfl (by decide +kernel) (by decide +kernel) (by decide +kernel) rfl rfl (by decide) (YT.own (α := Int) rfl rfl rfl hx10 rfl Try.isAgg3 rfl rfl) ?_
          refine GH1.take 4 rfl (by decide +kernel) (by decide +kernel) (by decide +kernel) rfl rfl (by decide) ((PY.field rfl rfl Try.underlying25 rfl Try.sizeOf22 (by decide)).yield _) ?_
          refine GH1.take 5 rfl (by decide +kernel) (by decide +kernel) (by decide +kernel) rfl rfl (by decide) (YL.loadN rfl rfl rfl Try.isAgg22 rfl rfl) ?_
          refine GH1.take 6 rfl (by decide +kernel) (by decide +kernel) (by decide +kernel) rfl rfl (by decide) ((PY.move rfl).yield _) ?_
          refine GH1.take 7 rfl (by decide +kernel) (by decide +kernel) (by decide +kernel) rfl rfl (by decide) ((PY.index rfl rfl rfl (idx_spec hx11).1 (idx_spec hx11).2.1 Try.underlying22 Try.sizeOf3).yield _) ?_
          refine GH1.take 8 rfl (by decide +kernel) (by decide +kernel) (by decide +kernel) rfl rfl (by decide) (YT.elt (α := Int) rfl hx11 rfl Try.isAgg3) ?_
          refine GH1.take 9 rfl (by decide +kernel) (by decide +kernel) (by decide +kernel) rfl rfl (by decide) ((PY.bin rfl rfl rfl).yield _) ?_
          refine GH1.done (by decide +kernel) ?_
          change GW _ _ _ _ _ _
          refine GW.cond rfl (fun hc3 => ?_) (fun hc3 => ?_)
          · have H := condT hc3 H
            refine GW.skip ?_
            change GW _ _ _ _ _ _
            refine GW.seq ?_
            refine GW.block ?_
            refine GW.seq ?_
            obtain ⟨r15, hr15, H⟩ := bind_some H
            obtain ⟨o12, o13, o14⟩ := r15
            obtain ⟨_, hl4, H⟩ := bind_some H
            replace hl4 := chk_spec hl4
            refine GW.region ?_
            refine GL.y (YL.loadAgg rfl rfl rfl Try.isAgg25 Try.sizeOf25 (Nat.le_of_ble_eq_true rfl) rfl) rfl rfl ?_
            refine GL.py (PY.move rfl) rfl rfl ?_
            refine GL.py (PY.move rfl) rfl rfl ?_
            refine GL.py (PY.bin rfl rfl rfl) rfl rfl ?_
            refine GL.py (PY.move rfl) rfl rfl ?_
            refine GL.e1 (EF.lend (s1 := ⟨[(1, .osl 1000 (Enc.sz Int) 0 (List.length x6)), (2, .val (.int .i64 k0)), (3, .yld 1001), (4, .loc 0 0), (46, .val (.bool o12))], [(0, ⟨25, false, true, false, 0, [.sl (List.length p0.Box) (encs p0.Box), .sl (List.length p0.Rows) (encs p0.Rows)], none⟩), (1000, ⟨3, true, false, true, Enc.sz Int, encs o13, none⟩), (1001, (loopB [.loc 1002 0] (points_Count_y1_lp fn (jmpc 0 Jp.go)))), (1002, ⟨3, false, false, false, 0, [.val (.int .i64 o14)], none⟩)], []⟩) (W := [1000, 1001, 1002]) [1000, 1001, 1002] false [1000, 1001, 1002] Try.call39 rfl rfl rfl rfl (ih p0 (IntKind.i64.wrap (k0 + 1)) x6 c7 (o12, o13, o14) hr15) (by rintro _ _ ⟨rfl, rfl⟩; exact ⟨_, _, rfl, rfl, ⟨⟨rfl, rfl, rfl, rfl, rfl, trivial⟩, ⟨rfl, rfl, rfl, rfl, trivial⟩, rfl⟩⟩) rfl) rfl rfl ?_
            refine GL.resl 1 rfl hl4 ?_
            refine GL.py (PY.un rfl rfl) rfl rfl ?_
            refine GL.nil ?_
            change GW _ _ _ _ _ _
            refine GW.cond rfl (fun hc6 => ?_) (fun hc6 => ?_)
            · have H := condT hc6 H
              refine GW.seq ?_
              refine GW.region ?_
              refine GL.py (PY.assign rfl) rfl rfl ?_
              refine GL.nil ?_
              change GW _ _ _ _ _ _
              refine GW.ret ?_
              cases H
              exact And.intro ret_ne (And.intro rfl (RetQ.mk (.inl rfl) [.val (.bool false)] _ [(1000, ⟨3, true, false, true, Enc.sz Int, encs o13, none⟩), (1001, (loopB [.loc 1002 0] (points_Count_y1_lp fn (jmpc 0 Jp.go)))), (1002, ⟨3, false, false, false, 0, [.val (.int .i64 o14)], none⟩)] ⟨Res.tmp rfl, trivial⟩ ⟨rfl, rfl, rfl, trivial⟩ rfl ⟨rfl, rfl⟩))
            · have H := condF hc6 H
              refine GW.skip ?_
              change GW _ _ _ _ _ _
              obtain ⟨x16, hx16, H⟩ := bind_some H
              refine GW.region ?_
              refine GL.py (PY.move rfl) rfl rfl ?_
              refine GL.py (PY.move rfl) rfl rfl ?_
              refine GL.py (PY.index rfl rfl rfl (idx_spec hx16).1 (idx_spec hx16).2.1 Try.underlying22 Try.sizeOf3) rfl rfl ?_
              refine GL.y (YT.own (α := Int) rfl rfl rfl hx16 rfl Try.isAgg3 rfl rfl) rfl rfl ?_
              refine GL.py (PY.bin rfl rfl rfl) rfl rfl ?_
              refine GL.py (PY.index rfl rfl rfl (idx_spec hx16).1 (idx_spec hx16).2.1 Try.underlying22 Try.sizeOf3) rfl rfl ?_
              refine GL.e0 (ET.set (α := Int) (x := IntKind.i64.wrap (x16 + 1)) (W := [1000]) rfl rfl rfl rfl rfl rfl rfl rfl rfl (idx_spec hx16).1 (idx_spec hx16).2.1 Try.sizeOf3 rfl) rfl ?_
              refine GL.resl 1 rfl (show List.length o13 = List.length (List.set o13 (Int.toNat k0) (IntKind.i64.wrap (x16 + 1))) from List.length_set.symm) ?_
              refine GL.resl 35 rfl (show List.length o13 = List.length (List.set o13 (Int.toNat k0) (IntKind.i64.wrap (x16 + 1))) from List.length_set.symm) ?_
              refine GL.nil ?_
              cases H
              exact And.intro rfl ⟨⟨rfl, rfl, rfl, rfl, trivial⟩, ⟨rfl, rfl, rfl, rfl, trivial⟩, rfl⟩
          · have H := condF hc3 H
            refine GW.exit ?_
            cases H
            exact And.intro exit_ne (And.intro rfl ⟨trivial, ⟨rfl, rfl, rfl, trivial⟩, rfl⟩)
        · cases e7 with
          | ret r2 =>
            obtain ⟨rfl, hx⟩ := hx
            have H := Hr r2 rfl
            subst H
            exact hx
          | brk b2 =>
            obtain ⟨rfl, hs⟩ := hx
            have H := Hb b2 rfl
            obtain ⟨l8, c9⟩ := b2
            change GW _ _ _ _ _ _
            refine GW.weak _ hs ?_
            refine GW.weak ⟨[], [(1000, ⟨3, true, false, true, Enc.sz Int, encs l8, none⟩), (1001, (loopB [.loc 1002 0] (points_Count_y1_lp fn (jmpc 0 Jp.go)))), (1002, ⟨3, false, false, false, 0, [.val (.int .i64 c9)], none⟩)], []⟩ ⟨trivial, ⟨rfl, rfl, rfl, trivial⟩, rfl⟩ ?_
            change GW _ _ _ _ _ _
            refine GW.seq ?_
            refine GW.region ?_
            refine GL.py (PY.assign rfl) rfl rfl ?_
            refine GL.nil ?_
            change GW _ _ _ _ _ _
            refine GW.ret ?_
            have H := Option.some.inj H
            subst H
            exact RetQ.mk (.inl rfl) [.val (.bool true)] _ [(1000, ⟨3, true, false, true, Enc.sz Int, encs l8, none⟩), (1001, (loopB [.loc 1002 0] (points_Count_y1_lp fn (jmpc 0 Jp.go)))), (1002, ⟨3, false, false, false, 0, [.val (.int .i64 c9)], none⟩)] ⟨Res.tmp rfl, trivial⟩ ⟨rfl, rfl, rfl, trivial⟩ rfl ⟨rfl, rfl⟩

theorem points_All_1_3_ok (fn : FuncId) (fu : Nat) (a0 : SPoints) (c0 : Int) (r : Int) (H : F.points_All_1_3 fu a0 c0 = some r) : GM Try.prog 38 [.yld 1000, .ptr [.sl (List.length a0.Box) (encs a0.Box), .sl (List.length a0.Rows) (encs a0.Rows)]] [(1000, (loopB [.loc 1001 0] (points_Count_y1_lp fn (jmpc 0 Jp.go)))), (1001, ⟨3, false, false, false, 0, [.val (.int .i64 c0)], none⟩)] (fun g st => g = .tup [] ∧ st = [(1000, (loopB [.loc 1001 0] (points_Count_y1_lp fn (jmpc 0 Jp.go)))), (1001, ⟨3, false, false, false, 0, [.val (.int .i64 r)], none⟩)]) := by
  unfold F.points_All_1_3 at H
  refine GM.of (N := 13) Try.func38 rfl rfl rfl (fun cx hro => ?_)
  change GW _ _ _ _ _ _
  refine GW.seq ?_
  obtain ⟨r1, hr1, H⟩ := bind_some H
  refine GW.region ?_
  refine GL.y (YL.ptrAgg rfl (Nat.le_of_ble_eq_true rfl) Try.isAgg25 Try.sizeOf25) rfl rfl ?_
  refine GL.e (W := []) (EF.call 4 Try.call17 rfl (mapO_cons rfl rfl) (points_Wrong_ok fu a0 r1 hr1) (by rintro _ _ ⟨rfl, rfl⟩; rfl)) rfl rfl ?_
  rintro _ ⟨_, _, ⟨rfl, rfl⟩, rfl⟩
  refine GL.py (PY.bin rfl rfl rfl) rfl rfl ?_
  refine GL.nil ?_
  change GW _ _ _ _ _ _
  refine GW.cond rfl (fun hc1 => ?_) (fun hc1 => ?_)
  · have H := condT hc1 H
    obtain ⟨_, hm2, H⟩ := bind_some H
    replace hm2 := chk_spec hm2
    obtain ⟨r6, hr6, H⟩ := bind_some H
    obtain ⟨o3, o4, o5⟩ := r6
    obtain ⟨_, hl3, H⟩ := bind_some H
    replace hl3 := chk_spec hl3
    refine GW.draws [4, 1000, 1001] mixed ?_
    change GH1 _ _ _ _ _ _ 7 _ _
    refine GH1.take 0 rfl (by decide +kernel) (by decide +kernel) (by decide +kernel) rfl rfl (by decide) (YL.ptrAgg rfl (Nat.le_of_ble_eq_true rfl) Try.isAgg25 Try.sizeOf25) ?_
    refine GH1.take 1 rfl (by decide +kernel) (by decide +kernel) (by decide +kernel) rfl rfl (by decide) ((PY.field rfl rfl Try.underlying25 rfl Try.sizeOf22 (by decide)).yield _) ?_
    refine GH1.take 2 rfl (by decide +kernel) (by decide +kernel) (by decide +kernel) rfl rfl (by decide) (YL.ptr rfl rfl Try.isAgg22) ?_
    refine GH1.take 3 rfl (by decide +kernel) (by decide +kernel) (by decide +kernel) rfl rfl (by decide) ((PY.len rfl rfl Try.underlying22).yield _) ?_
    refine GH1.take 5 rfl (by decide +kernel) (by decide +kernel) (by decide +kernel) rfl rfl (by decide) ((PY.move rfl).yield _) ?_
    refine GH1.later ?_
    refine GH2.one 4 (by decide +kernel) rfl rfl (fun d e => by cases e; decide) (ET.make (α := Int) (x := (0 : Int)) 4 rfl rfl Try.underlying22 info3 rfl rfl hm2.1 hm2.2.1 hm2.2.2 rfl) ?_
    rintro _ rfl
    refine GH2.one 6 (by decide +kernel) rfl rfl (fun d e => by cases e; decide) (EF.lend (s1 := ⟨[(0, .yld 1000), (1, .ptr [.sl (List.length a0.Box) (encs a0.Box), .sl (List.length a0.Rows) (encs a0.Rows)]), (3, .agg [.sl (List.length a0.Box) (encs a0.Box), .sl (List.length a0.Rows) (encs a0.Rows)]), (4, .val (.int .i64 r1)), (5, .val (.bool (r1 == 0))), (6, .agg [.sl (List.length a0.Box) (encs a0.Box), .sl (List.length a0.Rows) (encs a0.Rows)]), (7, .ptr [.sl (List.length a0.Box) (encs a0.Box), .sl (List.length a0.Rows) (encs a0.Rows)]), (8, .sl (List.length a0.Box) (encs a0.Box)), (9, .val (.int .i64 (List.length a0.Box : Int))), (10, .osl 4 (Enc.sz Int) 0 (List.length (List.replicate (Int.toNat (List.length a0.Box : Int)) (0 : Int)))), (11, .yld 1000), (12, .val (.bool o3))], [(4, ⟨3, true, true, true, Enc.sz Int, encs o4, none⟩), (1000, (loopB [.loc 1001 0] (points_Count_y1_lp fn (jmpc 0 Jp.go)))), (1001, ⟨3, false, false, false, 0, [.val (.int .i64 o5)], none⟩)], []⟩) [4, 1000, 1001] false [4, 1000, 1001] Try.call39 rfl rfl rfl rfl (points_walk_3_ok fn fu a0 0 (List.replicate (Int.toNat (List.length a0.Box : Int)) (0 : Int)) c0 (o3, o4, o5) hr6) (by rintro _ _ ⟨rfl, rfl⟩; exact ⟨_, _, rfl, rfl, ⟨⟨rfl, rfl, rfl, rfl, rfl, rfl, rfl, rfl, rfl, rfl, rfl, rfl, trivial⟩, ⟨rfl, rfl, rfl, trivial⟩, rfl⟩⟩) rfl) ?_
    rintro _ rfl
    refine GH2.resl 10 rfl hl3 ?_
    refine GH2.done (by decide +kernel) ?_
    have H := Option.some.inj H
    subst H
    exact RetQ.mk (.inr rfl) [] _ [(1000, (loopB [.loc 1001 0] (points_Count_y1_lp fn (jmpc 0 Jp.go)))), (1001, ⟨3, false, false, false, 0, [.val (.int .i64 o5)], none⟩)] trivial ⟨rfl, rfl, trivial⟩ rfl ⟨rfl, rfl⟩
  · have H := condF hc1 H
    refine GW.skip ?_
    have H := Option.some.inj H
    subst H
    exact RetQ.mk (.inr rfl) [] _ [(1000, (loopB [.loc 1001 0] (points_Count_y1_lp fn (jmpc 0 Jp.go)))), (1001, ⟨3, false, false, false, 0, [.val (.int .i64 c0)], none⟩)] trivial ⟨rfl, rfl, trivial⟩ rfl ⟨rfl, rfl⟩

theorem points_Count_ok (fu : Nat) (p0 : SPoints) (r : (Int × Int)) (H : F.points_Count fu p0 = some r) : GM Try.prog 15 [.agg [.sl (List.length p0.Box) (encs p0.Box), .sl (List.length p0.Rows) (encs p0.Rows)]] [] (fun g st => g = .tup [.val (.int .i64 r.1), .val (.int .i64 r.2)] ∧ st = []) := by
  unfold F.points_Count at H
  refine GM.of (N := 17) Try.func15 rfl rfl rfl (fun cx hro => ?_)
  change GW _ _ _ _ _ _
  refine GW.seq ?_
  refine GW.region ?_
  refine GL.e1 (W := []) (EF.box 0 rfl rfl rfl) rfl rfl ?_
  refine GL.py (PY.assign rfl) rfl rfl ?_
  refine GL.py (PY.assign rfl) rfl rfl ?_
  refine GL.nil ?_
  change GW _ _ _ _ _ _
  refine GW.seq ?_
  refine GW.seq ?_
  obtain ⟨r1, hr1, H⟩ := bind_some H
  refine GW.region ?_
  refine GL.y (YL.loadAgg rfl rfl rfl Try.isAgg25 Try.sizeOf25 (Nat.le_of_ble_eq_true rfl) rfl) rfl rfl ?_
  refine GL.e (W := []) (EF.call 4 Try.call17 rfl (mapO_cons rfl rfl) (points_Wrong_ok fu p0 r1 hr1) (by rintro _ _ ⟨rfl, rfl⟩; rfl)) rfl rfl ?_
  rintro _ ⟨_, _, ⟨rfl, rfl⟩, rfl⟩
  refine GL.py (PY.assign rfl) rfl rfl ?_
  refine GL.nil ?_
  change GW _ _ _ _ _ _
  refine GW.seq ?_
  refine GW.region ?_
  refine GL.py (PY.move rfl) rfl rfl ?_
  refine GL.py (PY.bin rfl rfl rfl) rfl rfl ?_
  refine GL.nil ?_
  change GW _ _ _ _ _ _
  refine GW.cond rfl (fun hc1 => ?_) (fun hc1 => ?_)
  · have H := condT hc1 H
    refine GW.seq ?_
    refine GW.region ?_
    refine GL.py (PY.move rfl) rfl rfl ?_
    refine GL.py (PY.assign rfl) rfl rfl ?_
    refine GL.py (PY.assign rfl) rfl rfl ?_
    refine GL.nil ?_
    change GW _ _ _ _ _ _
    refine GW.ret ?_
    have H := Option.some.inj H
    subst H
    exact RetQ.mk (.inl rfl) [.val (.int .i64 0), .val (.int .i64 r1)] _ [] ⟨Res.tmp rfl, Res.tmp rfl, trivial⟩ trivial rfl ⟨rfl, rfl⟩
  · have H := condF hc1 H
    refine GW.skip ?_
    change GW _ _ _ _ _ _
    refine GW.seq ?_
    refine GW.region ?_
    refine GL.e1 (W := []) (EF.alloc 1 Try.zeroValue3 rfl) rfl rfl ?_
    refine GL.e0 (EF.storeN (W := [1]) (cells' := [.val (.int .i64 0)]) rfl rfl rfl rfl rfl rfl rfl rfl Try.sizeOf3 (Nat.le_of_ble_eq_true rfl) rfl rfl) rfl ?_
    refine GL.nil ?_
    change GW _ _ _ _ _ _
    refine GW.seq ?_
    refine GW.seq ?_
    obtain ⟨r3, hr3, H⟩ := bind_some H
    refine GW.region ?_
    refine GL.y (YL.loadAgg rfl rfl rfl Try.isAgg25 Try.sizeOf25 (Nat.le_of_ble_eq_true rfl) rfl) rfl rfl ?_
    refine GL.e (W := []) (EF.callA Try.call31 rfl (mapO_cons rfl rfl) (points_All_ok fu p0 r3 hr3) (by rintro _ _ ⟨rfl, rfl⟩; exact ⟨rfl, rfl⟩)) rfl rfl ?_
    rintro _ ⟨_, _, ⟨rfl, rfl⟩, rfl⟩
    refine GL.nil ?_
    change GW _ _ _ _ _ _
    refine GW.block ?_
    obtain ⟨o5, ho5, H⟩ := bind_some H
    refine GW.rangeFunc hro points_Count_y1_lp 2 [5] [2, 1] false [2, 1] (fun _ _ => rfl) rfl Try.call38 rfl rfl (fun _ => rfl) rfl (by simp) (fun fn => points_All_1_3_ok fn fu r3 0 o5 ho5) (fun _ => rfl) ?_
    rintro fn _ _ ⟨rfl, rfl⟩
    refine ⟨_, ⟨[(5, .loc 1 0)], [(1, ⟨3, false, true, false, 0, [.val (.int .i64 o5)], none⟩)], []⟩, _, _, rfl, rfl, rfl, rfl, ⟨⟨rfl, trivial⟩, ⟨rfl, trivial⟩, rfl⟩, rfl, LoopR.on (j := Jp.go) rfl ?_⟩
    change GW _ _ _ _ _ _
    refine GW.seq ?_
    refine GW.region ?_
    refine GL.y (YL.loadN rfl rfl rfl Try.isAgg3 rfl rfl) rfl rfl ?_
    refine GL.py (PY.assign rfl) rfl rfl ?_
    refine GL.py (PY.assign rfl) rfl rfl ?_
    refine GL.nil ?_
    change GW _ _ _ _ _ _
    refine GW.ret ?_
    have H := Option.some.inj H
    subst H
    exact RetQ.mk (.inl rfl) [.val (.int .i64 o5), .val (.int .i64 0)] _ [] ⟨Res.tmp rfl, Res.tmp rfl, trivial⟩ trivial rfl ⟨rfl, rfl⟩

theorem adjointlaw9_PointsBack_ok (fu : Nat) (p0 : SPoints) (n0 : Int) (x0 : (List Int)) (r : Bool) (H : F.adjointlaw9_PointsBack fu p0 n0 x0 = some r) : GM Try.prog 7 [.agg [.sl (List.length p0.Box) (encs p0.Box), .sl (List.length p0.Rows) (encs p0.Rows)], .val (.int .i64 n0), .sl (List.length x0) (encs x0)] [] (fun g st => g = .val (.bool r) ∧ st = []) := by
  unfold F.adjointlaw9_PointsBack at H
  refine GM.of (N := 73) Try.func7 rfl rfl rfl (fun cx hro => ?_)
  change GW _ _ _ _ _ _
  refine GW.seq ?_
  refine GW.region ?_
  refine GL.e1 (W := []) (EF.box 0 rfl rfl rfl) rfl rfl ?_
  refine GL.py (PY.assign rfl) rfl rfl ?_
  refine GL.nil ?_
  change GW _ _ _ _ _ _
  refine GW.seq ?_
  obtain ⟨r1, hr1, H⟩ := bind_some H
  refine GW.region ?_
  refine GL.y (YL.loadAgg rfl rfl rfl Try.isAgg25 Try.sizeOf25 (Nat.le_of_ble_eq_true rfl) rfl) rfl rfl ?_
  refine GL.e (W := []) (EF.call 4 Try.call15 rfl (mapO_cons rfl rfl) (points_Count_ok fu p0 r1 hr1) (by rintro _ _ ⟨rfl, rfl⟩; rfl)) rfl rfl ?_
  rintro _ ⟨_, _, ⟨rfl, rfl⟩, rfl⟩
  refine GL.py (PY.move rfl) rfl rfl ?_
  refine GL.py (PY.extract rfl rfl) rfl rfl ?_
  refine GL.py (PY.extract rfl rfl) rfl rfl ?_
  refine GL.py (PY.assign rfl) rfl rfl ?_
  refine GL.py (PY.assign rfl) rfl rfl ?_
  refine GL.nil ?_
  change GW _ _ _ _ _ _
  refine GW.seq ?_
  refine GW.seq ?_
  refine GW.region ?_
  refine GL.py (PY.move rfl) rfl rfl ?_
  refine GL.py (PY.bin rfl rfl rfl) rfl rfl ?_
  refine GL.nil ?_
  change GW _ _ _ _ _ _
  refine GW.cond rfl (fun hc1 => ?_) (fun hc1 => ?_)
  · have H := condT hc1 H
    refine GW.seq ?_
    refine GW.region ?_
    refine GL.py (PY.assign rfl) rfl rfl ?_
    refine GL.nil ?_
    change GW _ _ _ _ _ _
    refine GW.ret ?_
    have H := Option.some.inj H
    subst H
    exact RetQ.mk (.inl rfl) [.val (.bool true)] _ [] ⟨Res.tmp rfl, trivial⟩ trivial rfl ⟨rfl, rfl⟩
  · have H := condF hc1 H
    refine GW.skip ?_
    change GW _ _ _ _ _ _
    refine GW.seq ?_
    obtain ⟨r3, hr3, H⟩ := bind_some H
    refine GW.region ?_
    refine GL.y (YL.loadAgg rfl rfl rfl Try.isAgg25 Try.sizeOf25 (Nat.le_of_ble_eq_true rfl) rfl) rfl rfl ?_
    refine GL.py (PY.move rfl) rfl rfl ?_
    refine GL.e (W := []) (EF.callA Try.call21 rfl (mapO_cons rfl (mapO_cons rfl rfl)) (points_Nth_ok fu p0 n0 r3 hr3) (by rintro _ _ ⟨rfl, rfl⟩; exact ⟨rfl, rfl⟩)) rfl rfl ?_
    rintro _ ⟨_, _, ⟨rfl, rfl⟩, rfl⟩
    refine GL.py (PY.move rfl) rfl rfl ?_
    refine GL.py (PY.extract rfl rfl) rfl rfl ?_
    refine GL.py (PY.extract rfl rfl) rfl rfl ?_
    refine GL.py (PY.assign rfl) rfl rfl ?_
    refine GL.py (PY.assign rfl) rfl rfl ?_
    refine GL.nil ?_
    change GW _ _ _ _ _ _
    refine GW.seq ?_
    refine GW.seq ?_
    obtain ⟨e12, he12, H⟩ := bind_some H
    obtain ⟨i5, rfl⟩ : ∃ z, z = e12 := ⟨_, rfl⟩
    refine GW.mono (Q := QB .normal (fun (q : Bool) => (⟨[(1, .val (.int .i64 n0)), (2, .sl (List.length x0) (encs x0)), (3, .loc 0 0), (8, .val (.int .i64 r3.2)), (9, .sl (List.length r3.1) (encs r3.1)), (36, .val (.bool q))], [(0, ⟨25, false, true, false, 0, [.sl (List.length p0.Box) (encs p0.Box), .sl (List.length p0.Rows) (encs p0.Rows)], none⟩)], []⟩ : St)) i5) ?_ ?_
    · have H := he12
      refine GW.region ?_
      refine GL.py (PY.move rfl) rfl rfl ?_
      refine GL.py (PY.bin rfl rfl rfl) rfl rfl ?_
      refine GL.py (PY.move rfl) rfl rfl ?_
      refine GL.py (PY.bin rfl rfl rfl) rfl rfl ?_
      refine GL.py (PY.move rfl) rfl rfl ?_
      refine (Bool.eq_false_or_eq_true (decide (n0 ≥ 0))).elim (fun hg2 => ?_) (fun hg2 => ?_)
      · have H := condT hg2 H
        refine GL.lit 31 rfl hg2 ?_
        refine GL.py (PY.move rfl) rfl rfl ?_
        refine GL.py (PY.move rfl) rfl rfl ?_
        refine GL.py (PY.bin rfl rfl rfl) rfl rfl ?_
        refine GL.py (PY.pickT rfl rfl) rfl rfl ?_
        refine GL.py (PY.neB rfl rfl Try.underlying4) rfl rfl ?_
        refine GL.nil ?_
        cases H
        exact And.intro rfl ⟨⟨rfl, rfl, rfl, rfl, rfl, rfl, trivial⟩, ⟨rfl, trivial⟩, rfl⟩
      · have H := condF hg2 H
        refine GL.lit 31 rfl hg2 ?_
        refine GL.nou rfl rfl ?_
        refine GL.nou rfl rfl ?_
        refine GL.nou rfl rfl ?_
        refine GL.py (PY.pickF rfl rfl) rfl rfl ?_
        refine GL.py (PY.neB rfl rfl Try.underlying4) rfl rfl ?_
        refine GL.nil ?_
        cases H
        exact And.intro rfl ⟨⟨rfl, rfl, rfl, rfl, rfl, rfl, trivial⟩, ⟨rfl, trivial⟩, rfl⟩
    · rintro _ s2 ⟨rfl, hs⟩
      change GW _ _ _ _ _ _
      refine GW.weak _ hs ?_
      refine GW.weak ⟨[(1, .val (.int .i64 n0)), (2, .sl (List.length x0) (encs x0)), (3, .loc 0 0), (8, .val (.int .i64 r3.2)), (9, .sl (List.length r3.1) (encs r3.1)), (36, .val (.bool i5))], [(0, ⟨25, false, true, false, 0, [.sl (List.length p0.Box) (encs p0.Box), .sl (List.length p0.Rows) (encs p0.Rows)], none⟩)], []⟩ ⟨⟨rfl, rfl, rfl, rfl, rfl, rfl, trivial⟩, ⟨rfl, trivial⟩, rfl⟩ ?_
      change GW _ _ _ _ _ _
      refine GW.cond rfl (fun hc3 => ?_) (fun hc3 => ?_)
      · have H := condT hc3 H
        refine GW.seq ?_
        refine GW.region ?_
        refine GL.py (PY.assign rfl) rfl rfl ?_
        refine GL.nil ?_
        change GW _ _ _ _ _ _
        refine GW.ret ?_
        have H := Option.some.inj H
        subst H
        exact RetQ.mk (.inl rfl) [.val (.bool false)] _ [] ⟨Res.tmp rfl, trivial⟩ trivial rfl ⟨rfl, rfl⟩
      · have H := condF hc3 H
        refine GW.skip ?_
        change GW _ _ _ _ _ _
        refine GW.seq ?_
        refine GW.seq ?_
        refine GW.region ?_
        refine GL.py (PY.move rfl) rfl rfl ?_
        refine GL.py (PY.bin rfl rfl rfl) rfl rfl ?_
        refine GL.nil ?_
        change GW _ _ _ _ _ _
        obtain ⟨e5, he5, Hb, Hr⟩ := bindE_some H
        refine GW.mono (Q := QJ .normal (fun (q : Unit) => (⟨[(2, .sl (List.length x0) (encs x0)), (3, .loc 0 0)], [(0, ⟨25, false, true, false, 0, [.sl (List.length p0.Box) (encs p0.Box), .sl (List.length p0.Rows) (encs p0.Rows)], none⟩)], []⟩ : St)) (fun r2 _ s2 => RetQ Try.prog Try.f7 (fun g st => g = .val (.bool r2) ∧ st = []) .ret s2) e5) ?_ ?_
        · have H := he5
          refine GW.cond rfl (fun hc4 => ?_) (fun hc4 => ?_)
          · have H := condT hc4 H
            refine GW.seq ?_
            obtain ⟨r6, hr6, H⟩ := bind_some H
            refine GW.region ?_
            refine GL.y (YL.loadAgg rfl rfl rfl Try.isAgg25 Try.sizeOf25 (Nat.le_of_ble_eq_true rfl) rfl) rfl rfl ?_
            refine GL.py (PY.move rfl) rfl rfl ?_
            refine GL.e (W := []) (EF.call 4 Try.call23 rfl (mapO_cons rfl (mapO_cons rfl rfl)) (points_Ahead_ok fu p0 r3.1 r6 hr6) (by rintro _ _ ⟨rfl, rfl⟩; rfl)) rfl rfl ?_
            rintro _ ⟨_, _, ⟨rfl, rfl⟩, rfl⟩
            refine GL.py (PY.move rfl) rfl rfl ?_
            refine GL.py (PY.extract rfl rfl) rfl rfl ?_
            refine GL.py (PY.extract rfl rfl) rfl rfl ?_
            refine GL.py (PY.assign rfl) rfl rfl ?_
            refine GL.py (PY.assign rfl) rfl rfl ?_
            refine GL.nil ?_
            change GW _ _ _ _ _ _
            refine GW.seq ?_
            obtain ⟨e8, he8, H⟩ := bind_some H
            obtain ⟨i8, rfl⟩ : ∃ z, z = e8 := ⟨_, rfl⟩
            refine GW.mono (Q := QB .normal (fun (q : Bool) => (⟨[(2, .sl (List.length x0) (encs x0)), (3, .loc 0 0), (51, .val (.bool q))], [(0, ⟨25, false, true, false, 0, [.sl (List.length p0.Box) (encs p0.Box), .sl (List.length p0.Rows) (encs p0.Rows)], none⟩)], []⟩ : St)) i8) ?_ ?_
            · have H := he8
              refine GW.region ?_
              refine GL.py (PY.move rfl) rfl rfl ?_
              refine GL.py (PY.bin rfl rfl rfl) rfl rfl ?_
              refine GL.py (PY.move rfl) rfl rfl ?_
              refine (Bool.eq_false_or_eq_true (r6.2 != 0)).elim (fun hg6 => ?_) (fun hg6 => ?_)
              · have H := condT hg6 H
                refine GL.lit 47 rfl hg6 ?_
                refine GL.nou rfl rfl ?_
                refine GL.nou rfl rfl ?_
                refine GL.nou rfl rfl ?_
                refine GL.py (PY.pickT rfl rfl) rfl rfl ?_
                refine GL.nil ?_
                cases H
                exact And.intro rfl ⟨⟨rfl, rfl, rfl, trivial⟩, ⟨rfl, trivial⟩, rfl⟩
              · have H := condF hg6 H
                refine GL.lit 47 rfl hg6 ?_
                refine GL.py (PY.move rfl) rfl rfl ?_
                refine GL.py (PY.move rfl) rfl rfl ?_
                refine GL.py (PY.bin rfl rfl rfl) rfl rfl ?_
                refine GL.py (PY.pickF rfl rfl) rfl rfl ?_
                refine GL.nil ?_
                cases H
                exact And.intro rfl ⟨⟨rfl, rfl, rfl, trivial⟩, ⟨rfl, trivial⟩, rfl⟩
            · rintro _ s2 ⟨rfl, hs⟩
              change GW _ _ _ _ _ _
              refine GW.weak _ hs ?_
              refine GW.weak ⟨[(2, .sl (List.length x0) (encs x0)), (3, .loc 0 0), (51, .val (.bool i8))], [(0, ⟨25, false, true, false, 0, [.sl (List.length p0.Box) (encs p0.Box), .sl (List.length p0.Rows) (encs p0.Rows)], none⟩)], []⟩ ⟨⟨rfl, rfl, rfl, trivial⟩, ⟨rfl, trivial⟩, rfl⟩ ?_
              change GW _ _ _ _ _ _
              refine GW.cond rfl (fun hc7 => ?_) (fun hc7 => ?_)
              · have H := condT hc7 H
                refine GW.seq ?_
                refine GW.region ?_
                refine GL.py (PY.assign rfl) rfl rfl ?_
                refine GL.nil ?_
                change GW _ _ _ _ _ _
                refine GW.ret ?_
                cases H
                exact And.intro rfl (RetQ.mk (.inl rfl) [.val (.bool false)] _ [] ⟨Res.tmp rfl, trivial⟩ trivial rfl ⟨rfl, rfl⟩)
              · have H := condF hc7 H
                refine GW.skip ?_
                cases H
                exact And.intro rfl ⟨⟨rfl, rfl, trivial⟩, ⟨rfl, trivial⟩, rfl⟩
          · have H := condF hc4 H
            refine GW.skip ?_
            cases H
            exact And.intro rfl ⟨⟨rfl, rfl, trivial⟩, ⟨rfl, trivial⟩, rfl⟩
        · intro ex s2 hx
          cases e5 with
          | ret r2 =>
            obtain ⟨rfl, hx⟩ := hx
            have H := Hr r2 rfl
            subst H
            exact hx
          | brk b2 =>
            obtain ⟨rfl, hs⟩ := hx
            have H := Hb b2 rfl
            change GW _ _ _ _ _ _
            refine GW.weak _ hs ?_
            refine GW.weak ⟨[(2, .sl (List.length x0) (encs x0)), (3, .loc 0 0)], [(0, ⟨25, false, true, false, 0, [.sl (List.length p0.Box) (encs p0.Box), .sl (List.length p0.Rows) (encs p0.Rows)], none⟩)], []⟩ ⟨⟨rfl, rfl, trivial⟩, ⟨rfl, trivial⟩, rfl⟩ ?_
            change GW _ _ _ _ _ _
            refine GW.seq ?_
            obtain ⟨r9, hr9, H⟩ := bind_some H
            refine GW.region ?_
            refine GL.y (YL.loadAgg rfl rfl rfl Try.isAgg25 Try.sizeOf25 (Nat.le_of_ble_eq_true rfl) rfl) rfl rfl ?_
            refine GL.py (PY.move rfl) rfl rfl ?_
            refine GL.e (W := []) (EF.call 4 Try.call23 rfl (mapO_cons rfl (mapO_cons rfl rfl)) (points_Ahead_ok fu p0 x0 r9 hr9) (by rintro _ _ ⟨rfl, rfl⟩; rfl)) rfl rfl ?_
            rintro _ ⟨_, _, ⟨rfl, rfl⟩, rfl⟩
            refine GL.py (PY.move rfl) rfl rfl ?_
            refine GL.py (PY.extract rfl rfl) rfl rfl ?_
            refine GL.py (PY.extract rfl rfl) rfl rfl ?_
            refine GL.py (PY.assign rfl) rfl rfl ?_
            refine GL.py (PY.assign rfl) rfl rfl ?_
            refine GL.nil ?_
            change GW _ _ _ _ _ _
            refine GW.seq ?_
            refine GW.seq ?_
            refine GW.region ?_
            refine GL.py (PY.move rfl) rfl rfl ?_
            refine GL.py (PY.bin rfl rfl rfl) rfl rfl ?_
            refine GL.nil ?_
            change GW _ _ _ _ _ _
            refine GW.cond rfl (fun hc9 => ?_) (fun hc9 => ?_)
            · have H := condT hc9 H
              refine GW.seq ?_
              refine GW.region ?_
              refine GL.py (PY.assign rfl) rfl rfl ?_
              refine GL.nil ?_
              change GW _ _ _ _ _ _
              refine GW.ret ?_
              have H := Option.some.inj H
              subst H
              exact RetQ.mk (.inl rfl) [.val (.bool true)] _ [] ⟨Res.tmp rfl, trivial⟩ trivial rfl ⟨rfl, rfl⟩
            · have H := condF hc9 H
              refine GW.skip ?_
              change GW _ _ _ _ _ _
              refine GW.seq ?_
              obtain ⟨r11, hr11, H⟩ := bind_some H
              refine GW.region ?_
              refine GL.y (YL.loadAgg rfl rfl rfl Try.isAgg25 Try.sizeOf25 (Nat.le_of_ble_eq_true rfl) rfl) rfl rfl ?_
              refine GL.py (PY.move rfl) rfl rfl ?_
              refine GL.e (W := []) (EF.callA Try.call21 rfl (mapO_cons rfl (mapO_cons rfl rfl)) (points_Nth_ok fu p0 r9.1 r11 hr11) (by rintro _ _ ⟨rfl, rfl⟩; exact ⟨rfl, rfl⟩)) rfl rfl ?_
              rintro _ ⟨_, _, ⟨rfl, rfl⟩, rfl⟩
              refine GL.py (PY.move rfl) rfl rfl ?_
              refine GL.py (PY.extract rfl rfl) rfl rfl ?_
              refine GL.py (PY.extract rfl rfl) rfl rfl ?_
              refine GL.py (PY.assign rfl) rfl rfl ?_
              refine GL.py (PY.assign rfl) rfl rfl ?_
              refine GL.nil ?_
              change GW _ _ _ _ _ _
              refine GW.seq ?_
              obtain ⟨e11, he11, H⟩ := bind_some H
              obtain ⟨i14, rfl⟩ : ∃ z, z = e11 := ⟨_, rfl⟩
              refine GW.mono (Q := QB .normal (fun (q : Bool) => (⟨[(6, .val (.bool q))], [], []⟩ : St)) i14) ?_ ?_
              · have H := he11
                refine GW.region ?_
                refine GL.py (PY.move rfl) rfl rfl ?_
                refine GL.py (PY.bin rfl rfl rfl) rfl rfl ?_
                refine GL.py (PY.move rfl) rfl rfl ?_
                refine (Bool.eq_false_or_eq_true (r11.2 == 0)).elim (fun hg10 => ?_) (fun hg10 => ?_)
                · have H := condT hg10 H
                  obtain ⟨r13, hr13, H⟩ := bind_some H
                  refine GL.lit 68 rfl hg10 ?_
                  refine GL.py (PY.move rfl) rfl rfl ?_
                  refine GL.py (PY.move rfl) rfl rfl ?_
                  refine GL.e (W := []) (EF.call 4 Try.call20 rfl (mapO_cons rfl (mapO_cons rfl rfl)) (adjointref2_SameList_ok fu r11.1 x0 r13 hr13) (by rintro _ _ ⟨rfl, rfl⟩; rfl)) rfl rfl ?_
                  rintro _ ⟨_, _, ⟨rfl, rfl⟩, rfl⟩
                  refine GL.py (PY.pickT rfl rfl) rfl rfl ?_
                  refine GL.py (PY.assign rfl) rfl rfl ?_
                  refine GL.nil ?_
                  cases H
                  exact And.intro rfl ⟨⟨rfl, trivial⟩, trivial, rfl⟩
                · have H := condF hg10 H
                  refine GL.lit 68 rfl hg10 ?_
                  refine GL.nou rfl rfl ?_
                  refine GL.nou rfl rfl ?_
                  refine GL.nou rfl rfl ?_
                  refine GL.py (PY.pickF rfl rfl) rfl rfl ?_
                  refine GL.py (PY.assign rfl) rfl rfl ?_
                  refine GL.nil ?_
                  cases H
                  exact And.intro rfl ⟨⟨rfl, trivial⟩, trivial, rfl⟩
              · rintro _ s2 ⟨rfl, hs⟩
                change GW _ _ _ _ _ _
                refine GW.weak _ hs ?_
                refine GW.weak ⟨[(6, .val (.bool i14))], [], []⟩ ⟨⟨rfl, trivial⟩, trivial, rfl⟩ ?_
                change GW _ _ _ _ _ _
                refine GW.ret ?_
                have H := Option.some.inj H
                subst H
                exact RetQ.mk (.inl rfl) [.val (.bool i14)] _ [] ⟨Res.tmp rfl, trivial⟩ trivial rfl ⟨rfl, rfl⟩

noncomputable def plain_Points_y2_lp (fn : FuncId) (j : Option Code) : Lp := ⟨fn, 23, [4], #[13], cAsg (cBlk (cSeqR (cSeqL (cSeqR (cSeqR (cSeqR (cOf Try.f14))))))), cBody (cBlk (cSeqR (cSeqL (cSeqR (cSeqR (cSeqR (cOf Try.f14))))))), j⟩
theorem plain_Points_y2_ok (fn : FuncId) (fu : Nat) (a0 : (List Int)) (l0 : (List (List Int))) (r : (List (List Int))) (H : F.plain_Points_y2 fu a0 l0 = some r) : GY Try.prog (plain_Points_y2_lp fn none) [.loc 1000 0] [.sl (List.length a0) (encs a0)] [(1000, ⟨35, false, false, false, 0, [.osl 1001 (Enc.sz (List Int)) 0 (List.length l0)], none⟩), (1001, ⟨22, true, false, false, Enc.sz (List Int), encs l0, none⟩)] (fun j st => j = none ∧ st = [(1000, ⟨35, false, false, false, 0, [.osl 501 (Enc.sz (List Int)) 0 (List.length r)], none⟩), (501, ⟨22, true, false, false, Enc.sz (List Int), encs r, none⟩)]) := by
  unfold F.plain_Points_y2 at H
  refine GY.of rfl rfl (fun cx => ?_)
  change GW _ 23 _ _ _ _
  refine GW.weak ⟨[(4, .loc 1000 0), (13, .sl (List.length a0) (encs a0))], [(1000, ⟨35, false, false, false, 0, [.osl 1001 (Enc.sz (List Int)) 0 (List.length l0)], none⟩), (1001, ⟨22, true, false, false, Enc.sz (List Int), encs l0, none⟩)], []⟩ ⟨⟨rfl, rfl, trivial⟩, ⟨rfl, rfl, trivial⟩, rfl⟩ ?_
  refine GW.move 1001 501 rfl rfl ?_
  refine GW.region ?_
  refine GL.py (PY.assign rfl) rfl rfl ?_
  refine GL.nil ?_
  refine ⟨rfl, fun cx2 => ?_⟩
  change GW _ 23 _ _ _ _
  change GW _ _ _ _ _ _
  refine GW.block ?_
  obtain ⟨_, ha1, H⟩ := bind_some H
  replace ha1 := chk_spec ha1
  refine GW.region ?_
  refine GL.y (YL.loadN rfl rfl rfl Try.isAgg35 rfl rfl) rfl rfl ?_
  refine GL.py (PY.move rfl) rfl rfl ?_
  refine GL.e1 (W := []) (EF.buildSlice 2 rfl rfl Try.underlying35 info22 (by decide) (by decide) rfl rfl) rfl rfl ?_
  refine GL.purify (cs := encs (α := (List Int)) [a0]) (f := false) 2 rfl rfl rfl ?_
  refine GL.e1 (ET.append (α := (List Int)) (m := [a0]) (W := [501]) rfl rfl rfl rfl rfl rfl rfl (gsrc_vec (α := (List Int)) (l := [a0]) rfl rfl rfl) rfl Try.underlying35 info22 rfl ha1.1 ha1.2 rfl) rfl rfl ?_
  refine GL.e0 (EF.storeN (W := [1000]) (cells' := [.osl 501 (Enc.sz (List Int)) 0 (List.length (l0 ++ [a0]))]) rfl rfl rfl rfl rfl rfl rfl rfl Try.sizeOf35 (Nat.le_of_ble_eq_true rfl) rfl rfl) rfl ?_
  refine GL.nil ?_
  have H := Option.some.inj H
  subst H
  exact ⟨rfl, [(1000, ⟨35, false, false, false, 0, [.osl 501 (Enc.sz (List Int)) 0 (List.length (l0 ++ [a0]))], none⟩), (501, ⟨22, true, false, false, Enc.sz (List Int), encs (l0 ++ [a0]), none⟩)], ⟨rfl, rfl, trivial⟩, rfl, rfl⟩

theorem points_walk_4_ok (fn : FuncId) (fu : Nat) : ∀ (p0 : SPoints) (k0 : Int) (l0 : (List Int)) (l00 : (List (List Int))) (r : (Bool × (List Int) × (List (List Int)))) (H : F.points_walk_4 fu p0 k0 l0 l00 = some r), GM Try.prog 39 [.agg [.sl (List.length p0.Box) (encs p0.Box), .sl (List.length p0.Rows) (encs p0.Rows)], .osl 1000 (Enc.sz Int) 0 (List.length l0), .val (.int .i64 k0), .yld 1001] [(1000, ⟨3, true, false, false, Enc.sz Int, encs l0, none⟩), (1001, (loopB [.loc 1002 0] (plain_Points_y2_lp fn (jmpc 0 Jp.go)))), (1002, ⟨35, false, false, false, 0, [.osl 1003 (Enc.sz (List Int)) 0 (List.length l00)], none⟩), (1003, ⟨22, true, false, false, Enc.sz (List Int), encs l00, none⟩)] (fun g st => g = .val (.bool r.1) ∧ st = [(1000, ⟨3, true, false, true, Enc.sz Int, encs r.2.1, none⟩), (1001, (loopB [.loc 1002 0] (plain_Points_y2_lp fn (jmpc 0 Jp.go)))), (1002, ⟨35, false, false, false, 0, [.osl 503 (Enc.sz (List Int)) 0 (List.length r.2.2)], none⟩), (503, ⟨22, true, false, false, Enc.sz (List Int), encs r.2.2, none⟩)]) := by
  induction fu with
  | zero => intro p0 k0 l0 l00 r H; cases H
  | succ fu ih =>
    intro p0 k0 l0 l00 r H
    replace H : F.points_walk_4_body fu (F.points_walk_4 fu) p0 k0 l0 l00 = some r := H
    unfold F.points_walk_4_body at H
    refine GM.of (N := 48) Try.func39 rfl rfl rfl (fun cx hro => ?_)
    change GW _ _ _ _ _ _
    refine GW.refresh (α := Int) (l := l0) 1000 rfl rfl rfl ?_
    refine GW.move 1003 503 rfl rfl ?_
    refine GW.seq ?_
    refine GW.region ?_
    refine GL.e1 (W := []) (EF.box 0 rfl rfl rfl) rfl rfl ?_
    refine GL.py (PY.assign rfl) rfl rfl ?_
    refine GL.nil ?_
    change GW _ _ _ _ _ _
    refine GW.seq ?_
    refine GW.seq ?_
    obtain ⟨r1, hr1, H⟩ := bind_some H
    refine GW.region ?_
    refine GL.y (YL.loadAgg rfl rfl rfl Try.isAgg25 Try.sizeOf25 (Nat.le_of_ble_eq_true rfl) rfl) rfl rfl ?_
    refine GL.py (PY.move rfl) rfl rfl ?_
    refine GL.py (PY.move rfl) rfl rfl ?_
    refine GL.e (W := []) (EF.call 4 Try.call46 rfl (mapO_cons rfl (mapO_cons (view_vec (α := Int) (l := l0) rfl rfl rfl) (mapO_cons rfl rfl))) (points_hopeless_ok fu p0 l0 k0 r1 hr1) (by rintro _ _ ⟨rfl, rfl⟩; rfl)) rfl rfl ?_
    rintro _ ⟨_, _, ⟨rfl, rfl⟩, rfl⟩
    refine GL.nil ?_
    change GW _ _ _ _ _ _
    refine GW.cond rfl (fun hc1 => ?_) (fun hc1 => ?_)
    · have H := condT hc1 H
      refine GW.seq ?_
      refine GW.region ?_
      refine GL.py (PY.assign rfl) rfl rfl ?_
      refine GL.nil ?_
      change GW _ _ _ _ _ _
      refine GW.ret ?_
      have H := Option.some.inj H
      subst H
      exact RetQ.mk (.inl rfl) [.val (.bool true)] _ [(1000, ⟨3, true, false, true, Enc.sz Int, encs l0, none⟩), (1001, (loopB [.loc 1002 0] (plain_Points_y2_lp fn (jmpc 0 Jp.go)))), (1002, ⟨35, false, false, false, 0, [.osl 503 (Enc.sz (List Int)) 0 (List.length l00)], none⟩), (503, ⟨22, true, false, false, Enc.sz (List Int), encs l00, none⟩)] ⟨Res.tmp rfl, trivial⟩ ⟨rfl, rfl, rfl, rfl, trivial⟩ rfl ⟨rfl, rfl⟩
    · have H := condF hc1 H
      refine GW.skip ?_
      change GW _ _ _ _ _ _
      refine GW.seq ?_
      refine GW.seq ?_
      refine GW.region ?_
      refine GL.py (PY.move rfl) rfl rfl ?_
      refine GL.py (PY.field rfl rfl Try.underlying25 rfl Try.sizeOf22 (by decide)) rfl rfl ?_
      refine GL.y (YL.loadN rfl rfl rfl Try.isAgg22 rfl rfl) rfl rfl ?_
      refine GL.py (PY.len rfl rfl Try.underlying22) rfl rfl ?_
      refine GL.py (PY.bin rfl rfl rfl) rfl rfl ?_
      refine GL.nil ?_
      change GW _ _ _ _ _ _
      refine GW.cond rfl (fun hc2 => ?_) (fun hc2 => ?_)
      · have H := condT hc2 H
        refine GW.seq ?_
        obtain ⟨r3, hr3, H⟩ := bind_some H
        obtain ⟨r4, hr4, H⟩ := bind_some H
        refine GW.region ?_
        refine GL.py (PY.move rfl) rfl rfl ?_
        refine GL.py (PY.move rfl) rfl rfl ?_
        refine GL.e1 (EF.lend (s1 := ⟨[(8, .val (.bool false)), (18, .yld 1001), (20, .osl 203 (Enc.sz Int) 0 (List.length r3))], [(203, ⟨3, true, true, true, Enc.sz Int, encs r3, none⟩), (503, ⟨22, true, false, false, Enc.sz (List Int), encs l00, none⟩), (1000, ⟨3, true, false, true, Enc.sz Int, encs l0, none⟩), (1001, (loopB [.loc 1002 0] (plain_Points_y2_lp fn (jmpc 0 Jp.go)))), (1002, ⟨35, false, false, false, 0, [.osl 503 (Enc.sz (List Int)) 0 (List.length l00)], none⟩)], []⟩) (W := []) [] true [203] Try.call26 rfl (lend_cons (view_vec (α := Int) (l := l0) rfl rfl rfl) rfl) rfl rfl (slices_Clone_ok fu l0 r3 hr3) (by rintro _ _ ⟨rfl, rfl⟩; exact ⟨_, _, rfl, rfl, ⟨⟨rfl, rfl, rfl, trivial⟩, ⟨rfl, rfl, rfl, rfl, rfl, trivial⟩, rfl⟩⟩) rfl) rfl rfl ?_
        refine GL.freeze ⟨[(8, .val (.bool false)), (18, .yld 1001), (20, .fr (.sl (List.length r3) (encs r3)))], [(503, ⟨22, true, false, false, Enc.sz (List Int), encs l00, none⟩), (1000, ⟨3, true, false, true, Enc.sz Int, encs l0, none⟩), (1001, (loopB [.loc 1002 0] (plain_Points_y2_lp fn (jmpc 0 Jp.go)))), (1002, ⟨35, false, false, false, 0, [.osl 503 (Enc.sz (List Int)) 0 (List.length l00)], none⟩)], []⟩ ⟨⟨_, rfl, rfl, rfl, rfl, rfl, rfl, rfl, .inl ⟨rfl, rfl⟩⟩, ⟨_, rfl, rfl, rfl, rfl, rfl, rfl, rfl, .inl ⟨rfl, rfl⟩⟩, ⟨_, rfl, rfl, rfl, rfl, rfl, rfl, rfl, .inr ⟨rfl, ⟨.inr rfl, trivial⟩⟩⟩, ⟨_, rfl, rfl, rfl, rfl, rfl, rfl, rfl, .inr ⟨rfl, ⟨.inr rfl, trivial⟩⟩⟩, trivial⟩ ⟨⟨_, rfl, .inr rfl⟩, ⟨_, rfl, .inr rfl⟩, ⟨_, rfl, .inl (fz_vec (α := Int) (l := r3) rfl rfl rfl rfl rfl rfl)⟩, trivial⟩ ?_
        refine GL.yld [1002, 503] [1002, 503] rfl rfl rfl rfl rfl rfl rfl rfl rfl rfl rfl rfl rfl (plain_Points_y2_ok fn fu r3 l00 r4 hr4) rfl rfl ?_
        rintro _ _ ⟨rfl, rfl⟩
        refine ⟨_, rfl, _, rfl, rfl, _, rfl, ?_⟩
        refine GL.weak ⟨[(8, .val (.bool false)), (21, .val (.bool true))], [(503, ⟨22, true, false, false, Enc.sz (List Int), encs r4, none⟩), (1000, ⟨3, true, false, true, Enc.sz Int, encs l0, none⟩), (1001, (loopB [.loc 1002 0] (plain_Points_y2_lp fn (jmpc 0 Jp.go)))), (1002, ⟨35, false, false, false, 0, [.osl 503 (Enc.sz (List Int)) 0 (List.length r4)], none⟩)], []⟩ ⟨⟨rfl, rfl, trivial⟩, ⟨rfl, rfl, rfl, rfl, trivial⟩, rfl⟩ ?_
        refine GL.py (PY.assign rfl) rfl rfl ?_
        refine GL.nil ?_
        change GW _ _ _ _ _ _
        refine GW.ret ?_
        have H := Option.some.inj H
        subst H
        exact RetQ.mk (.inl rfl) [.val (.bool true)] _ [(1000, ⟨3, true, false, true, Enc.sz Int, encs l0, none⟩), (1001, (loopB [.loc 1002 0] (plain_Points_y2_lp fn (jmpc 0 Jp.go)))), (1002, ⟨35, false, false, false, 0, [.osl 503 (Enc.sz (List Int)) 0 (List.length r4)], none⟩), (503, ⟨22, true, false, false, Enc.sz (List Int), encs r4, none⟩)] ⟨Res.tmp rfl, trivial⟩ ⟨rfl, rfl, rfl, rfl, trivial⟩ rfl ⟨rfl, rfl⟩
      · have H := condF hc2 H
        refine GW.skip ?_
        change GW _ _ _ _ _ _
        refine GW.seq ?_
        refine GW.seq ?_
        obtain ⟨x5, hx5, H⟩ := bind_some H
        refine GW.region ?_
        refine GL.py (PY.move rfl) rfl rfl ?_
        refine GL.py (PY.move rfl) rfl rfl ?_
        refine GL.py (PY.index rfl rfl rfl (idx_spec hx5).1 (idx_spec hx5).2.1 Try.underlying22 Try.sizeOf3) rfl rfl ?_
        refine GL.e0 (ET.set (α := Int) (x := 0) (W := [1000]) rfl rfl rfl rfl rfl rfl rfl rfl rfl (idx_spec hx5).1 (idx_spec hx5).2.1 Try.sizeOf3 rfl) rfl ?_
        refine GL.resl 1 rfl (show List.length l0 = List.length (List.set l0 (Int.toNat k0) 0) from List.length_set.symm) ?_
        refine GL.resl 22 rfl (show List.length l0 = List.length (List.set l0 (Int.toNat k0) 0) from List.length_set.symm) ?_
        refine GL.nil ?_
        change GW _ _ _ _ _ _
        refine GW.block ?_
        obtain ⟨e7, he7, Hb, Hr⟩ := bindE_some H
        refine GW.weak ((fun (q : (List (List Int)) × (List Int)) => (⟨[(1, .osl 1000 (Enc.sz Int) 0 (List.length q.2)), (2, .val (.int .i64 k0)), (3, .yld 1001), (4, .loc 0 0)], [(0, ⟨25, false, true, false, 0, [.sl (List.length p0.Box) (encs p0.Box), .sl (List.length p0.Rows) (encs p0.Rows)], none⟩), (503, ⟨22, true, false, false, Enc.sz (List Int), encs q.1, none⟩), (1000, ⟨3, true, false, true, Enc.sz Int, encs q.2, none⟩), (1001, (loopB [.loc 1002 0] (plain_Points_y2_lp fn (jmpc 0 Jp.go)))), (1002, ⟨35, false, false, false, 0, [.osl 503 (Enc.sz (List Int)) 0 (List.length q.1)], none⟩)], []⟩ : St)) (l00, List.set l0 (Int.toNat k0) 0)) ⟨⟨rfl, rfl, rfl, rfl, trivial⟩, ⟨rfl, rfl, rfl, rfl, rfl, trivial⟩, rfl⟩ ?_
        refine GW.loopF (fun (q : (List (List Int)) × (List Int)) => (⟨[(1, .osl 1000 (Enc.sz Int) 0 (List.length q.2)), (2, .val (.int .i64 k0)), (3, .yld 1001), (4, .loc 0 0)], [(0, ⟨25, false, true, false, 0, [.sl (List.length p0.Box) (encs p0.Box), .sl (List.length p0.Rows) (encs p0.Rows)], none⟩), (503, ⟨22, true, false, false, Enc.sz (List Int), encs q.1, none⟩), (1000, ⟨3, true, false, true, Enc.sz Int, encs q.2, none⟩), (1001, (loopB [.loc 1002 0] (plain_Points_y2_lp fn (jmpc 0 Jp.go)))), (1002, ⟨35, false, false, false, 0, [.osl 503 (Enc.sz (List Int)) 0 (List.length q.1)], none⟩)], []⟩ : St)) (QJ (.exit 0) (fun (q : (List (List Int)) × (List Int)) => (⟨[], [(503, ⟨22, true, false, false, Enc.sz (List Int), encs q.1, none⟩), (1000, ⟨3, true, false, true, Enc.sz Int, encs q.2, none⟩), (1001, (loopB [.loc 1002 0] (plain_Points_y2_lp fn (jmpc 0 Jp.go)))), (1002, ⟨35, false, false, false, 0, [.osl 503 (Enc.sz (List Int)) 0 (List.length q.1)], none⟩)], []⟩ : St)) (fun r2 _ s2 => RetQ Try.prog Try.f39 (fun g st => g = .val (.bool r2.1) ∧ st = [(1000, ⟨3, true, false, true, Enc.sz Int, encs r2.2.1, none⟩), (1001, (loopB [.loc 1002 0] (plain_Points_y2_lp fn (jmpc 0 Jp.go)))), (1002, ⟨35, false, false, false, 0, [.osl 503 (Enc.sz (List Int)) 0 (List.length r2.2.2)], none⟩), (503, ⟨22, true, false, false, Enc.sz (List Int), encs r2.2.2, none⟩)]) .ret s2)) he7 (fun x o hb => ?_) (fun ex s2 _ hx => ?_)
        · obtain ⟨l6, x7⟩ := x
          have H := hb
          unfold F.points_walk_4_l1 at H
          try dsimp only at H
          refine GW.weak ⟨[(1, .osl 1000 (Enc.sz Int) 0 (List.length x7)), (2, .val (.int .i64 k0)), (3, .yld 1001), (4, .loc 0 0)], [(0, ⟨25, false, true, false, 0, [.sl (List.length p0.Box) (encs p0.Box), .sl (List.length p0.Rows) (encs p0.Rows)], none⟩), (503, ⟨22, true, false, false, Enc.sz (List Int), encs l6, none⟩), (1000, ⟨3, true, false, true, Enc.sz Int, encs x7, none⟩), (1001, (loopB [.loc 1002 0] (plain_Points_y2_lp fn (jmpc 0 Jp.go)))), (1002, ⟨35, false, false, false, 0, [.osl 503 (Enc.sz (List Int)) 0 (List.length l6)], none⟩)], []⟩ ⟨⟨rfl, rfl, rfl, rfl, trivial⟩, ⟨rfl, rfl, rfl, rfl, rfl, trivial⟩, rfl⟩ ?_
          refine GW.seq ?_
          refine GW.seq ?_
          obtain ⟨x10, hx10, H⟩ := bind_some H
          obtain ⟨x11, hx11, H⟩ := bind_some H
          refine GW.draws [] mixed ?_
          change GH1 _ _ _ _ _ _ 10 _ _
          refine GH1.take 0 rfl (by decide +kernel) (by decide +kernel) (by decide +kernel) rfl rfl (by decide) ((PY.move rfl).yield _) ?_
          refine GH1.take 1 rfl (by decide +kernel) (by decide +kernel) (by decide +kernel) rfl rfl (by decide) ((PY.move rfl).yield _) ?_
          refine GH1.take 2 rfl (by decide +kernel) (by decide +kernel) (by decide +kernel) rfl rfl (by decide) ((PY.index rfl rfl rfl (idx_spec hx10).1 (idx_spec hx10).2.1 Try.underlying22 Try.sizeOf3).yield _) ?_
          refine GH1.take 3 rfl (by decide +kernel) (by decide +kernel) (by decide +kernel) rfl rfl (by decide) (YT.own (α := Int) rfl rfl rfl hx10 rfl Try.isAgg3 rfl rfl) ?_
          refine GH1.take 4 rfl (by decide +kernel) (by decide +kernel) (by decide +kernel) rfl rfl (by decide) ((PY.field rfl rfl Try.underlying25 rfl Try.sizeOf22 (by decide)).yield _) ?_
          refine GH1.take 5 rfl (by decide +kernel) (by decide +kernel) (by decide +kernel) rfl rfl (by decide) (YL.loadN rfl rfl rfl Try.isAgg22 rfl rfl) ?_
          refine GH1.take 6 rfl (by decide +kernel) (by decide +kernel) (by decide +kernel) rfl rfl (by decide) ((PY.move rfl).yield _) ?_
          refine GH1.take 7 rfl (by decide +kernel) (by decide +kernel) (by decide +kernel) rfl rfl (by decide) ((PY.index rfl rfl rfl (idx_spec hx11).1 (idx_spec hx11).2.1 Try.underlying22 Try.sizeOf3).yield _) ?_
          refine GH1.take 8 rfl (by decide +kernel) (by decide +kernel) (by decide +kernel) rfl rfl (by decide) (YT.elt (α := Int) rfl hx11 rfl Try.isAgg3) ?_
          refine GH1.take 9 rfl (by decide +kernel) (by decide +kernel) (by decide +kernel) rfl rfl (by decide) ((PY.bin rfl rfl rfl).yield _) ?_
          refine GH1.done (by decide +kernel) ?_
          change GW _ _ _ _ _ _
          refine GW.cond rfl (fun hc3 => ?_) (fun hc3 => ?_)
          · have H := condT hc3 H
            refine GW.skip ?_
            change GW _ _ _ _ _ _
            refine GW.seq ?_
            refine GW.block ?_
            refine GW.seq ?_
            obtain ⟨r15, hr15, H⟩ := bind_some H
            obtain ⟨o12, o13, o14⟩ := r15
            obtain ⟨_, hl4, H⟩ := bind_some H
            replace hl4 := chk_spec hl4
            refine GW.region ?_
            refine GL.y (YL.loadAgg rfl rfl rfl Try.isAgg25 Try.sizeOf25 (Nat.le_of_ble_eq_true rfl) rfl) rfl rfl ?_
            refine GL.py (PY.move rfl) rfl rfl ?_
            refine GL.py (PY.move rfl) rfl rfl ?_
            refine GL.py (PY.bin rfl rfl rfl) rfl rfl ?_
            refine GL.py (PY.move rfl) rfl rfl ?_
            refine GL.e1 (EF.lend (s1 := ⟨[(1, .osl 1000 (Enc.sz Int) 0 (List.length x7)), (2, .val (.int .i64 k0)), (3, .yld 1001), (4, .loc 0 0), (46, .val (.bool o12))], [(0, ⟨25, false, true, false, 0, [.sl (List.length p0.Box) (encs p0.Box), .sl (List.length p0.Rows) (encs p0.Rows)], none⟩), (503, ⟨22, true, false, false, Enc.sz (List Int), encs o14, none⟩), (1000, ⟨3, true, false, true, Enc.sz Int, encs o13, none⟩), (1001, (loopB [.loc 1002 0] (plain_Points_y2_lp fn (jmpc 0 Jp.go)))), (1002, ⟨35, false, false, false, 0, [.osl 503 (Enc.sz (List Int)) 0 (List.length o14)], none⟩)], []⟩) (W := [1000, 1001, 1002, 503]) [1000, 1001, 1002, 503] false [1000, 1001, 1002, 503] Try.call39 rfl rfl rfl rfl (ih p0 (IntKind.i64.wrap (k0 + 1)) x7 l6 (o12, o13, o14) hr15) (by rintro _ _ ⟨rfl, rfl⟩; exact ⟨_, _, rfl, rfl, ⟨⟨rfl, rfl, rfl, rfl, rfl, trivial⟩, ⟨rfl, rfl, rfl, rfl, rfl, trivial⟩, rfl⟩⟩) rfl) rfl rfl ?_
            refine GL.resl 1 rfl hl4 ?_
            refine GL.py (PY.un rfl rfl) rfl rfl ?_
            refine GL.nil ?_
            change GW _ _ _ _ _ _
            refine GW.cond rfl (fun hc6 => ?_) (fun hc6 => ?_)
            · have H := condT hc6 H
              refine GW.seq ?_
              refine GW.region ?_
              refine GL.py (PY.assign rfl) rfl rfl ?_
              refine GL.nil ?_
              change GW _ _ _ _ _ _
              refine GW.ret ?_
              cases H
              exact And.intro ret_ne (And.intro rfl (RetQ.mk (.inl rfl) [.val (.bool false)] _ [(1000, ⟨3, true, false, true, Enc.sz Int, encs o13, none⟩), (1001, (loopB [.loc 1002 0] (plain_Points_y2_lp fn (jmpc 0 Jp.go)))), (1002, ⟨35, false, false, false, 0, [.osl 503 (Enc.sz (List Int)) 0 (List.length o14)], none⟩), (503, ⟨22, true, false, false, Enc.sz (List Int), encs o14, none⟩)] ⟨Res.tmp rfl, trivial⟩ ⟨rfl, rfl, rfl, rfl, trivial⟩ rfl ⟨rfl, rfl⟩))
            · have H := condF hc6 H
              refine GW.skip ?_
              change GW _ _ _ _ _ _
              obtain ⟨x16, hx16, H⟩ := bind_some H
              refine GW.region ?_
              refine GL.py (PY.move rfl) rfl rfl ?_
              refine GL.py (PY.move rfl) rfl rfl ?_
              refine GL.py (PY.index rfl rfl rfl (idx_spec hx16).1 (idx_spec hx16).2.1 Try.underlying22 Try.sizeOf3) rfl rfl ?_
              refine GL.y (YT.own (α := Int) rfl rfl rfl hx16 rfl Try.isAgg3 rfl rfl) rfl rfl ?_
              refine GL.py (PY.bin rfl rfl rfl) rfl rfl ?_
              refine GL.py (PY.index rfl rfl rfl (idx_spec hx16).1 (idx_spec hx16).2.1 Try.underlying22 Try.sizeOf3) rfl rfl ?_
              refine GL.e0 (ET.set (α := Int) (x := IntKind.i64.wrap (x16 + 1)) (W := [1000]) rfl rfl rfl rfl rfl rfl rfl rfl rfl (idx_spec hx16).1 (idx_spec hx16).2.1 Try.sizeOf3 rfl) rfl ?_
              refine GL.resl 1 rfl (show List.length o13 = List.length (List.set o13 (Int.toNat k0) (IntKind.i64.wrap (x16 + 1))) from List.length_set.symm) ?_
              refine GL.resl 35 rfl (show List.length o13 = List.length (List.set o13 (Int.toNat k0) (IntKind.i64.wrap (x16 + 1))) from List.length_set.symm) ?_
              refine GL.nil ?_
              cases H
              exact And.intro rfl ⟨⟨rfl, rfl, rfl, rfl, trivial⟩, ⟨rfl, rfl, rfl, rfl, rfl, trivial⟩, rfl⟩
          · have H := condF hc3 H
            refine GW.exit ?_
            cases H
            exact And.intro exit_ne (And.intro rfl ⟨trivial, ⟨rfl, rfl, rfl, rfl, trivial⟩, rfl⟩)
        · cases e7 with
          | ret r2 =>
            obtain ⟨rfl, hx⟩ := hx
            have H := Hr r2 rfl
            subst H
            exact hx
          | brk b2 =>
            obtain ⟨rfl, hs⟩ := hx
            have H := Hb b2 rfl
            obtain ⟨l8, l9⟩ := b2
            change GW _ _ _ _ _ _
            refine GW.weak _ hs ?_
            refine GW.weak ⟨[], [(503, ⟨22, true, false, false, Enc.sz (List Int), encs l8, none⟩), (1000, ⟨3, true, false, true, Enc.sz Int, encs l9, none⟩), (1001, (loopB [.loc 1002 0] (plain_Points_y2_lp fn (jmpc 0 Jp.go)))), (1002, ⟨35, false, false, false, 0, [.osl 503 (Enc.sz (List Int)) 0 (List.length l8)], none⟩)], []⟩ ⟨trivial, ⟨rfl, rfl, rfl, rfl, trivial⟩, rfl⟩ ?_
            change GW _ _ _ _ _ _
            refine GW.seq ?_
            refine GW.region ?_
            refine GL.py (PY.assign rfl) rfl rfl ?_
            refine GL.nil ?_
            change GW _ _ _ _ _ _
            refine GW.ret ?_
            have H := Option.some.inj H
            subst H
            exact RetQ.mk (.inl rfl) [.val (.bool true)] _ [(1000, ⟨3, true, false, true, Enc.sz Int, encs l9, none⟩), (1001, (loopB [.loc 1002 0] (plain_Points_y2_lp fn (jmpc 0 Jp.go)))), (1002, ⟨35, false, false, false, 0, [.osl 503 (Enc.sz (List Int)) 0 (List.length l8)], none⟩), (503, ⟨22, true, false, false, Enc.sz (List Int), encs l8, none⟩)] ⟨Res.tmp rfl, trivial⟩ ⟨rfl, rfl, rfl, rfl, trivial⟩ rfl ⟨rfl, rfl⟩

theorem points_All_1_4_ok (fn : FuncId) (fu : Nat) (a0 : SPoints) (l0 : (List (List Int))) (r : (List (List Int))) (H : F.points_All_1_4 fu a0 l0 = some r) : GM Try.prog 38 [.yld 1000, .ptr [.sl (List.length a0.Box) (encs a0.Box), .sl (List.length a0.Rows) (encs a0.Rows)]] [(1000, (loopB [.loc 1001 0] (plain_Points_y2_lp fn (jmpc 0 Jp.go)))), (1001, ⟨35, false, false, false, 0, [.osl 1002 (Enc.sz (List Int)) 0 (List.length l0)], none⟩), (1002, ⟨22, true, false, false, Enc.sz (List Int), encs l0, none⟩)] (fun g st => g = .tup [] ∧ st = [(1000, (loopB [.loc 1001 0] (plain_Points_y2_lp fn (jmpc 0 Jp.go)))), (1001, ⟨35, false, false, false, 0, [.osl 502 (Enc.sz (List Int)) 0 (List.length r)], none⟩), (502, ⟨22, true, false, false, Enc.sz (List Int), encs r, none⟩)]) := by
  unfold F.points_All_1_4 at H
  refine GM.of (N := 13) Try.func38 rfl rfl rfl (fun cx hro => ?_)
  change GW _ _ _ _ _ _
  refine GW.move 1002 502 rfl rfl ?_
  refine GW.seq ?_
  obtain ⟨r1, hr1, H⟩ := bind_some H
  refine GW.region ?_
  refine GL.y (YL.ptrAgg rfl (Nat.le_of_ble_eq_true rfl) Try.isAgg25 Try.sizeOf25) rfl rfl ?_
  refine GL.e (W := []) (EF.call 4 Try.call17 rfl (mapO_cons rfl rfl) (points_Wrong_ok fu a0 r1 hr1) (by rintro _ _ ⟨rfl, rfl⟩; rfl)) rfl rfl ?_
  rintro _ ⟨_, _, ⟨rfl, rfl⟩, rfl⟩
  refine GL.py (PY.bin rfl rfl rfl) rfl rfl ?_
  refine GL.nil ?_
  change GW _ _ _ _ _ _
  refine GW.cond rfl (fun hc1 => ?_) (fun hc1 => ?_)
  · have H := condT hc1 H
    obtain ⟨_, hm2, H⟩ := bind_some H
    replace hm2 := chk_spec hm2
    obtain ⟨r6, hr6, H⟩ := bind_some H
    obtain ⟨o3, o4, o5⟩ := r6
    obtain ⟨_, hl3, H⟩ := bind_some H
    replace hl3 := chk_spec hl3
    refine GW.draws [4, 502, 1000, 1001] mixed ?_
    change GH1 _ _ _ _ _ _ 7 _ _
    refine GH1.take 0 rfl (by decide +kernel) (by decide +kernel) (by decide +kernel) rfl rfl (by decide) (YL.ptrAgg rfl (Nat.le_of_ble_eq_true rfl) Try.isAgg25 Try.sizeOf25) ?_
    refine GH1.take 1 rfl (by decide +kernel) (by decide +kernel) (by decide +kernel) rfl rfl (by decide) ((PY.field rfl rfl Try.underlying25 rfl Try.sizeOf22 (by decide)).yield _) ?_
    refine GH1.take 2 rfl (by decide +kernel) (by decide +kernel) (by decide +kernel) rfl rfl (by decide) (YL.ptr rfl rfl Try.isAgg22) ?_
    refine GH1.take 3 rfl (by decide +kernel) (by decide +kernel) (by decide +kernel) rfl rfl (by decide) ((PY.len rfl rfl Try.underlying22).yield _) ?_
    refine GH1.take 5 rfl (by decide +kernel) (by decide +kernel) (by decide +kernel) rfl rfl (by decide) ((PY.move rfl).yield _) ?_
    refine GH1.later ?_
    refine GH2.one 4 (by decide +kernel) rfl rfl (fun d e => by cases e; decide) (ET.make (α := Int) (x := (0 : Int)) 4 rfl rfl Try.underlying22 info3 rfl rfl hm2.1 hm2.2.1 hm2.2.2 rfl) ?_
    rintro _ rfl
    refine GH2.one 6 (by decide +kernel) rfl rfl (fun d e => by cases e; decide) (EF.lend (s1 := ⟨[(0, .yld 1000), (1, .ptr [.sl (List.length a0.Box) (encs a0.Box), .sl (List.length a0.Rows) (encs a0.Rows)]), (3, .agg [.sl (List.length a0.Box) (encs a0.Box), .sl (List.length a0.Rows) (encs a0.Rows)]), (4, .val (.int .i64 r1)), (5, .val (.bool (r1 == 0))), (6, .agg [.sl (List.length a0.Box) (encs a0.Box), .sl (List.length a0.Rows) (encs a0.Rows)]), (7, .ptr [.sl (List.length a0.Box) (encs a0.Box), .sl (List.length a0.Rows) (encs a0.Rows)]), (8, .sl (List.length a0.Box) (encs a0.Box)), (9, .val (.int .i64 (List.length a0.Box : Int))), (10, .osl 4 (Enc.sz Int) 0 (List.length (List.replicate (Int.toNat (List.length a0.Box : Int)) (0 : Int)))), (11, .yld 1000), (12, .val (.bool o3))], [(4, ⟨3, true, true, true, Enc.sz Int, encs o4, none⟩), (502, ⟨22, true, false, false, Enc.sz (List Int), encs o5, none⟩), (1000, (loopB [.loc 1001 0] (plain_Points_y2_lp fn (jmpc 0 Jp.go)))), (1001, ⟨35, false, false, false, 0, [.osl 502 (Enc.sz (List Int)) 0 (List.length o5)], none⟩)], []⟩) [4, 1000, 1001, 502] false [4, 1000, 1001, 502] Try.call39 rfl rfl rfl rfl (points_walk_4_ok fn fu a0 0 (List.replicate (Int.toNat (List.length a0.Box : Int)) (0 : Int)) l0 (o3, o4, o5) hr6) (by rintro _ _ ⟨rfl, rfl⟩; exact ⟨_, _, rfl, rfl, ⟨⟨rfl, rfl, rfl, rfl, rfl, rfl, rfl, rfl, rfl, rfl, rfl, rfl, trivial⟩, ⟨rfl, rfl, rfl, rfl, trivial⟩, rfl⟩⟩) rfl) ?_
    rintro _ rfl
    refine GH2.resl 10 rfl hl3 ?_
    refine GH2.done (by decide +kernel) ?_
    have H := Option.some.inj H
    subst H
    exact RetQ.mk (.inr rfl) [] _ [(1000, (loopB [.loc 1001 0] (plain_Points_y2_lp fn (jmpc 0 Jp.go)))), (1001, ⟨35, false, false, false, 0, [.osl 502 (Enc.sz (List Int)) 0 (List.length o5)], none⟩), (502, ⟨22, true, false, false, Enc.sz (List Int), encs o5, none⟩)] trivial ⟨rfl, rfl, rfl, trivial⟩ rfl ⟨rfl, rfl⟩
  · have H := condF hc1 H
    refine GW.skip ?_
    have H := Option.some.inj H
    subst H
    exact RetQ.mk (.inr rfl) [] _ [(1000, (loopB [.loc 1001 0] (plain_Points_y2_lp fn (jmpc 0 Jp.go)))), (1001, ⟨35, false, false, false, 0, [.osl 502 (Enc.sz (List Int)) 0 (List.length l0)], none⟩), (502, ⟨22, true, false, false, Enc.sz (List Int), encs l0, none⟩)] trivial ⟨rfl, rfl, rfl, trivial⟩ rfl ⟨rfl, rfl⟩

theorem plain_Points_1_3_ok (fu : Nat) (l0 : (List Int)) (c0 : Bool) (c00 : Bool) (c000 : Int) (l00 : (List (List Int))) (r : (Bool × (List Int) × Bool × Bool × Int)) (H : F.plain_Points_1_3 fu l0 c0 c00 c000 l00 = some r) : GM Try.prog 32 [.osl 1000 (Enc.sz Int) 0 (List.length l0), .loc 1001 0, .loc 1002 0, .loc 1003 0, .loc 1004 0] [(1000, ⟨3, true, false, false, Enc.sz Int, encs l0, none⟩), (1001, ⟨4, false, false, false, 0, [.val (.bool c0)], none⟩), (1002, ⟨4, false, false, false, 0, [.val (.bool c00)], none⟩), (1003, ⟨3, false, false, false, 0, [.val (.int .i64 c000)], none⟩), (1004, ⟨35, false, false, false, 0, [.osl 1005 (Enc.sz (List Int)) 0 (List.length l00)], none⟩), (1005, ⟨22, true, false, false, Enc.sz (List Int), encs l00, none⟩)] (fun g st => g = .val (.bool r.1) ∧ st = [(1000, ⟨3, true, false, true, Enc.sz Int, encs r.2.1, none⟩), (1001, ⟨4, false, false, false, 0, [.val (.bool r.2.2.1)], none⟩), (1002, ⟨4, false, false, false, 0, [.val (.bool r.2.2.2.1)], none⟩), (1003, ⟨3, false, false, false, 0, [.val (.int .i64 r.2.2.2.2)], none⟩), (1004, ⟨35, false, false, false, 0, [.osl 1005 (Enc.sz (List Int)) 0 (List.length l00)], none⟩), (1005, ⟨22, true, false, false, Enc.sz (List Int), encs l00, none⟩)]) := by
  unfold F.plain_Points_1_3 at H
  refine GM.of (N := 71) Try.func32 rfl rfl rfl (fun cx hro => ?_)
  change GW _ _ _ _ _ _
  refine GW.refresh (α := Int) (l := l0) 1000 rfl rfl rfl ?_
  refine GW.seq ?_
  refine GW.region ?_
  refine GL.py (PY.assign rfl) rfl rfl ?_
  refine GL.nil ?_
  change GW _ _ _ _ _ _
  refine GW.seq ?_
  obtain ⟨e9, he9, H⟩ := bind_some H
  obtain ⟨c2, rfl⟩ : ∃ z, z = e9 := ⟨_, rfl⟩
  refine GW.mono (Q := QB .normal (fun (q : Bool) => (⟨[(0, .osl 1000 (Enc.sz Int) 0 (List.length l0)), (1, .loc 1001 0), (2, .loc 1002 0), (3, .loc 1003 0), (4, .loc 1004 0)], [(1000, ⟨3, true, false, true, Enc.sz Int, encs l0, none⟩), (1001, ⟨4, false, false, false, 0, [.val (.bool q)], none⟩), (1002, ⟨4, false, false, false, 0, [.val (.bool c00)], none⟩), (1003, ⟨3, false, false, false, 0, [.val (.int .i64 c000)], none⟩), (1004, ⟨35, false, false, false, 0, [.osl 1005 (Enc.sz (List Int)) 0 (List.length l00)], none⟩), (1005, ⟨22, true, false, false, Enc.sz (List Int), encs l00, none⟩)], []⟩ : St)) c2) ?_ ?_
  · have H := he9
    refine GW.region ?_
    refine GL.y (YL.loadN rfl rfl rfl Try.isAgg4 rfl rfl) rfl rfl ?_
    refine GL.py (PY.move rfl) rfl rfl ?_
    refine (Bool.eq_false_or_eq_true c0).elim (fun hg1 => ?_) (fun hg1 => ?_)
    · have H := condT hg1 H
      refine GL.lit 9 rfl hg1 ?_
      refine GL.y (YL.loadN rfl rfl rfl Try.isAgg4 rfl rfl) rfl rfl ?_
      refine GL.py (PY.un rfl rfl) rfl rfl ?_
      refine GL.py (PY.pickT rfl rfl) rfl rfl ?_
      refine GL.py (PY.move rfl) rfl rfl ?_
      refine (Bool.eq_false_or_eq_true (!c00)).elim (fun hg2 => ?_) (fun hg2 => ?_)
      · have H := condT hg2 H
        refine GL.lit 13 rfl hg2 ?_
        refine GL.y (YL.loadN rfl rfl rfl Try.isAgg3 rfl rfl) rfl rfl ?_
        refine GL.y (YL.loadN rfl rfl rfl Try.isAgg35 rfl rfl) rfl rfl ?_
        refine GL.py (PY.len rfl rfl Try.underlying35) rfl rfl ?_
        refine GL.py (PY.bin rfl rfl rfl) rfl rfl ?_
        refine GL.py (PY.pickT rfl rfl) rfl rfl ?_
        refine GL.py (PY.move rfl) rfl rfl ?_
        refine (Bool.eq_false_or_eq_true (decide (c000 < (List.length l00 : Int)))).elim (fun hg3 => ?_) (fun hg3 => ?_)
        · have H := condT hg3 H
          obtain ⟨x1, hx1, H⟩ := bind_some H
          refine GL.lit 19 rfl hg3 ?_
          refine GL.py (PY.move rfl) rfl rfl ?_
          refine GL.py (PY.len rfl rfl Try.underlying22) rfl rfl ?_
          refine GL.y (YL.loadN rfl rfl rfl Try.isAgg35 rfl rfl) rfl rfl ?_
          refine GL.y (YL.loadN rfl rfl rfl Try.isAgg3 rfl rfl) rfl rfl ?_
          refine GL.py (PY.index rfl rfl rfl (idx_spec hx1).1 (idx_spec hx1).2.1 Try.underlying35 Try.sizeOf22) rfl rfl ?_
          refine GL.y (YT.own (α := (List Int)) rfl rfl rfl hx1 rfl Try.isAgg22 rfl rfl) rfl rfl ?_
          refine GL.py (PY.len rfl rfl Try.underlying22) rfl rfl ?_
          refine GL.py (PY.bin rfl rfl rfl) rfl rfl ?_
          refine GL.py (PY.pickT rfl rfl) rfl rfl ?_
          refine GL.e0 (EF.storeN (W := [1001]) (cells' := [.val (.bool ((List.length l0 : Int) == (List.length x1 : Int)))]) rfl rfl rfl rfl rfl rfl rfl rfl Try.sizeOf4 (Nat.le_of_ble_eq_true rfl) rfl rfl) rfl ?_
          refine GL.nil ?_
          cases H
          exact And.intro rfl ⟨⟨rfl, rfl, rfl, rfl, rfl, trivial⟩, ⟨rfl, rfl, rfl, rfl, rfl, rfl, trivial⟩, rfl⟩
        · have H := condF hg3 H
          refine GL.lit 19 rfl hg3 ?_
          refine GL.nou rfl rfl ?_
          refine GL.nou rfl rfl ?_
          refine GL.nou rfl rfl ?_
          refine GL.nou rfl rfl ?_
          refine GL.nou rfl rfl ?_
          refine GL.nou rfl rfl ?_
          refine GL.nou rfl rfl ?_
          refine GL.nou rfl rfl ?_
          refine GL.py (PY.pickF rfl rfl) rfl rfl ?_
          refine GL.e0 (EF.storeN (W := [1001]) (cells' := [.val (.bool false)]) rfl rfl rfl rfl rfl rfl rfl rfl Try.sizeOf4 (Nat.le_of_ble_eq_true rfl) rfl rfl) rfl ?_
          refine GL.nil ?_
          cases H
          exact And.intro rfl ⟨⟨rfl, rfl, rfl, rfl, rfl, trivial⟩, ⟨rfl, rfl, rfl, rfl, rfl, rfl, trivial⟩, rfl⟩
      · have H := condF hg2 H
        refine GL.lit 13 rfl hg2 ?_
        refine GL.nou rfl rfl ?_
        refine GL.nou rfl rfl ?_
        refine GL.nou rfl rfl ?_
        refine GL.nou rfl rfl ?_
        refine GL.py (PY.pickF rfl rfl) rfl rfl ?_
        refine GL.py (PY.move rfl) rfl rfl ?_
        refine GL.nou rfl rfl ?_
        refine GL.nou rfl rfl ?_
        refine GL.nou rfl rfl ?_
        refine GL.nou rfl rfl ?_
        refine GL.nou rfl rfl ?_
        refine GL.nou rfl rfl ?_
        refine GL.nou rfl rfl ?_
        refine GL.nou rfl rfl ?_
        refine GL.py (PY.pickF rfl rfl) rfl rfl ?_
        refine GL.e0 (EF.storeN (W := [1001]) (cells' := [.val (.bool false)]) rfl rfl rfl rfl rfl rfl rfl rfl Try.sizeOf4 (Nat.le_of_ble_eq_true rfl) rfl rfl) rfl ?_
        refine GL.nil ?_
        cases H
        exact And.intro rfl ⟨⟨rfl, rfl, rfl, rfl, rfl, trivial⟩, ⟨rfl, rfl, rfl, rfl, rfl, rfl, trivial⟩, rfl⟩
    · have H := condF hg1 H
      refine GL.lit 9 rfl hg1 ?_
      refine GL.nou rfl rfl ?_
      refine GL.nou rfl rfl ?_
      refine GL.py (PY.pickF rfl rfl) rfl rfl ?_
      refine GL.py (PY.move rfl) rfl rfl ?_
      refine GL.nou rfl rfl ?_
      refine GL.nou rfl rfl ?_
      refine GL.nou rfl rfl ?_
      refine GL.nou rfl rfl ?_
      refine GL.py (PY.pickF rfl rfl) rfl rfl ?_
      refine GL.py (PY.move rfl) rfl rfl ?_
      refine GL.nou rfl rfl ?_
      refine GL.nou rfl rfl ?_
      refine GL.nou rfl rfl ?_
      refine GL.nou rfl rfl ?_
      refine GL.nou rfl rfl ?_
      refine GL.nou rfl rfl ?_
      refine GL.nou rfl rfl ?_
      refine GL.nou rfl rfl ?_
      refine GL.py (PY.pickF rfl rfl) rfl rfl ?_
      refine GL.e0 (EF.storeN (W := [1001]) (cells' := [.val (.bool false)]) rfl rfl rfl rfl rfl rfl rfl rfl Try.sizeOf4 (Nat.le_of_ble_eq_true rfl) rfl rfl) rfl ?_
      refine GL.nil ?_
      cases H
      exact And.intro rfl ⟨⟨rfl, rfl, rfl, rfl, rfl, trivial⟩, ⟨rfl, rfl, rfl, rfl, rfl, rfl, trivial⟩, rfl⟩
  · rintro _ s2 ⟨rfl, hs⟩
    change GW _ _ _ _ _ _
    refine GW.weak _ hs ?_
    refine GW.weak ⟨[(0, .osl 1000 (Enc.sz Int) 0 (List.length l0)), (1, .loc 1001 0), (2, .loc 1002 0), (3, .loc 1003 0), (4, .loc 1004 0)], [(1000, ⟨3, true, false, true, Enc.sz Int, encs l0, none⟩), (1001, ⟨4, false, false, false, 0, [.val (.bool c2)], none⟩), (1002, ⟨4, false, false, false, 0, [.val (.bool c00)], none⟩), (1003, ⟨3, false, false, false, 0, [.val (.int .i64 c000)], none⟩), (1004, ⟨35, false, false, false, 0, [.osl 1005 (Enc.sz (List Int)) 0 (List.length l00)], none⟩), (1005, ⟨22, true, false, false, Enc.sz (List Int), encs l00, none⟩)], []⟩ ⟨⟨rfl, rfl, rfl, rfl, rfl, trivial⟩, ⟨rfl, rfl, rfl, rfl, rfl, rfl, trivial⟩, rfl⟩ ?_
    change GW _ _ _ _ _ _
    refine GW.seq ?_
    refine GW.seq ?_
    refine GW.region ?_
    refine GL.py (PY.move rfl) rfl rfl ?_
    refine GL.py (PY.len rfl rfl Try.underlying22) rfl rfl ?_
    refine GL.py (PY.move rfl) rfl rfl ?_
    refine GL.nil ?_
    change GW _ _ _ _ _ _
    refine GW.block ?_
    obtain ⟨e8, he8, H⟩ := bind_some H
    refine GW.weak ((fun (q : Int × (List Int) × Bool) => (⟨[(0, .osl 1000 (Enc.sz Int) 0 (List.length q.2.1)), (1, .loc 1001 0), (2, .loc 1002 0), (3, .loc 1003 0), (4, .loc 1004 0), (30, .val (.int .i64 (List.length l0 : Int))), (31, .val (.int .i64 q.1))], [(1000, ⟨3, true, false, true, Enc.sz Int, encs q.2.1, none⟩), (1001, ⟨4, false, false, false, 0, [.val (.bool q.2.2)], none⟩), (1002, ⟨4, false, false, false, 0, [.val (.bool c00)], none⟩), (1003, ⟨3, false, false, false, 0, [.val (.int .i64 c000)], none⟩), (1004, ⟨35, false, false, false, 0, [.osl 1005 (Enc.sz (List Int)) 0 (List.length l00)], none⟩), (1005, ⟨22, true, false, false, Enc.sz (List Int), encs l00, none⟩)], []⟩ : St)) (0, l0, c2)) ⟨⟨rfl, rfl, rfl, rfl, rfl, rfl, rfl, trivial⟩, ⟨rfl, rfl, rfl, rfl, rfl, rfl, trivial⟩, rfl⟩ ?_
    refine GW.loopF (fun (q : Int × (List Int) × Bool) => (⟨[(0, .osl 1000 (Enc.sz Int) 0 (List.length q.2.1)), (1, .loc 1001 0), (2, .loc 1002 0), (3, .loc 1003 0), (4, .loc 1004 0), (30, .val (.int .i64 (List.length l0 : Int))), (31, .val (.int .i64 q.1))], [(1000, ⟨3, true, false, true, Enc.sz Int, encs q.2.1, none⟩), (1001, ⟨4, false, false, false, 0, [.val (.bool q.2.2)], none⟩), (1002, ⟨4, false, false, false, 0, [.val (.bool c00)], none⟩), (1003, ⟨3, false, false, false, 0, [.val (.int .i64 c000)], none⟩), (1004, ⟨35, false, false, false, 0, [.osl 1005 (Enc.sz (List Int)) 0 (List.length l00)], none⟩), (1005, ⟨22, true, false, false, Enc.sz (List Int), encs l00, none⟩)], []⟩ : St)) (QB (.exit 0) (fun (q : (List Int) × Bool) => (⟨[(2, .loc 1002 0), (3, .loc 1003 0), (4, .loc 1004 0)], [(1000, ⟨3, true, false, true, Enc.sz Int, encs q.1, none⟩), (1001, ⟨4, false, false, false, 0, [.val (.bool q.2)], none⟩), (1002, ⟨4, false, false, false, 0, [.val (.bool c00)], none⟩), (1003, ⟨3, false, false, false, 0, [.val (.int .i64 c000)], none⟩), (1004, ⟨35, false, false, false, 0, [.osl 1005 (Enc.sz (List Int)) 0 (List.length l00)], none⟩), (1005, ⟨22, true, false, false, Enc.sz (List Int), encs l00, none⟩)], []⟩ : St))) he8 (fun x o hb => ?_) (fun ex s2 _ hx => ?_)
    · obtain ⟨i3, x4, c5⟩ := x
      have H := hb
      unfold F.plain_Points_1_3_l1 at H
      try dsimp only at H
      refine GW.weak ⟨[(0, .osl 1000 (Enc.sz Int) 0 (List.length x4)), (1, .loc 1001 0), (2, .loc 1002 0), (3, .loc 1003 0), (4, .loc 1004 0), (30, .val (.int .i64 (List.length l0 : Int))), (31, .val (.int .i64 i3))], [(1000, ⟨3, true, false, true, Enc.sz Int, encs x4, none⟩), (1001, ⟨4, false, false, false, 0, [.val (.bool c5)], none⟩), (1002, ⟨4, false, false, false, 0, [.val (.bool c00)], none⟩), (1003, ⟨3, false, false, false, 0, [.val (.int .i64 c000)], none⟩), (1004, ⟨35, false, false, false, 0, [.osl 1005 (Enc.sz (List Int)) 0 (List.length l00)], none⟩), (1005, ⟨22, true, false, false, Enc.sz (List Int), encs l00, none⟩)], []⟩ ⟨⟨rfl, rfl, rfl, rfl, rfl, rfl, rfl, trivial⟩, ⟨rfl, rfl, rfl, rfl, rfl, rfl, trivial⟩, rfl⟩ ?_
      refine GW.seq ?_
      refine GW.region ?_
      refine GL.py (PY.bin rfl rfl rfl) rfl rfl ?_
      refine GL.nil ?_
      change GW _ _ _ _ _ _
      refine GW.seq ?_
      refine GW.cond rfl (fun hc4 => ?_) (fun hc4 => ?_)
      · have H := condT hc4 H
        refine GW.skip ?_
        change GW _ _ _ _ _ _
        refine GW.seq ?_
        refine GW.block ?_
        refine GW.seq ?_
        refine GW.region ?_
        refine GL.py (PY.move rfl) rfl rfl ?_
        refine GL.py (PY.assign rfl) rfl rfl ?_
        refine GL.nil ?_
        change GW _ _ _ _ _ _
        refine GW.seq ?_
        obtain ⟨e7, he7, H⟩ := bind_some H
        obtain ⟨c11, rfl⟩ : ∃ z, z = e7 := ⟨_, rfl⟩
        refine GW.mono (Q := QB .normal (fun (q : Bool) => (⟨[(0, .osl 1000 (Enc.sz Int) 0 (List.length x4)), (1, .loc 1001 0), (2, .loc 1002 0), (3, .loc 1003 0), (4, .loc 1004 0), (7, .val (.int .i64 i3)), (30, .val (.int .i64 (List.length l0 : Int))), (31, .val (.int .i64 i3))], [(1000, ⟨3, true, false, true, Enc.sz Int, encs x4, none⟩), (1001, ⟨4, false, false, false, 0, [.val (.bool q)], none⟩), (1002, ⟨4, false, false, false, 0, [.val (.bool c00)], none⟩), (1003, ⟨3, false, false, false, 0, [.val (.int .i64 c000)], none⟩), (1004, ⟨35, false, false, false, 0, [.osl 1005 (Enc.sz (List Int)) 0 (List.length l00)], none⟩), (1005, ⟨22, true, false, false, Enc.sz (List Int), encs l00, none⟩)], []⟩ : St)) c11) ?_ ?_
        · have H := he7
          refine (Bool.eq_false_or_eq_true c5).elim (fun hg5 => ?_) (fun hg5 => ?_)
          · have H := condT hg5 H
            obtain ⟨x8, hx8, H⟩ := bind_some H
            refine (Bool.eq_false_or_eq_true (decide (i3 < (List.length x8 : Int)))).elim (fun hg6 => ?_) (fun hg6 => ?_)
            · have H := condT hg6 H
              obtain ⟨x9, hx9, H⟩ := bind_some H
              obtain ⟨x10, hx10, H⟩ := bind_some H
              refine GW.draws [1001] mixed ?_
              change GH1 _ _ _ _ _ _ 25 _ _
              refine GH1.later ?_
              refine GH2.oneY 0 (by decide +kernel) rfl rfl rfl (by decide) (YL.loadN rfl rfl rfl Try.isAgg4 rfl rfl) ?_
              refine GH2.take 1 rfl (by decide +kernel) (by decide +kernel) (by decide +kernel) rfl rfl (by decide) (PY.move rfl) ?_
              refine GH2.lit 35 rfl hg5 ?_
              refine GH2.take 2 rfl (by decide +kernel) (by decide +kernel) (by decide +kernel) rfl rfl (by decide) (PY.move rfl) ?_
              refine GH2.any 3 [4] (by decide +kernel) ⟨Turn.y 3 rfl rfl rfl (by decide) (YL.loadN rfl rfl rfl Try.isAgg35 rfl rfl) ?_, Turn.y 4 rfl rfl rfl (by decide) (YL.loadN rfl rfl rfl Try.isAgg3 rfl rfl) ?_, trivial⟩
              · refine GH2.oneY 4 (by decide +kernel) rfl rfl rfl (by decide) (YL.loadN rfl rfl rfl Try.isAgg3 rfl rfl) ?_
                refine GH2.take 5 rfl (by decide +kernel) (by decide +kernel) (by decide +kernel) rfl rfl (by decide) (PY.index rfl rfl rfl (idx_spec hx8).1 (idx_spec hx8).2.1 Try.underlying35 Try.sizeOf22) ?_
                refine GH2.oneY 6 (by decide +kernel) rfl rfl rfl (by decide) (YT.own (α := (List Int)) rfl rfl rfl hx8 rfl Try.isAgg22 rfl rfl) ?_
                refine GH2.take 7 rfl (by decide +kernel) (by decide +kernel) (by decide +kernel) rfl rfl (by decide) (PY.len rfl rfl Try.underlying22) ?_
                refine GH2.take 8 rfl (by decide +kernel) (by decide +kernel) (by decide +kernel) rfl rfl (by decide) (PY.bin rfl rfl rfl) ?_
                refine GH2.take 9 rfl (by decide +kernel) (by decide +kernel) (by decide +kernel) rfl rfl (by decide) (PY.pickT rfl rfl) ?_
                refine GH2.take 10 rfl (by decide +kernel) (by decide +kernel) (by decide +kernel) rfl rfl (by decide) (PY.move rfl) ?_
                refine GH2.lit 44 rfl hg6 ?_
                refine GH2.take 11 rfl (by decide +kernel) (by decide +kernel) (by decide +kernel) rfl rfl (by decide) (PY.move rfl) ?_
                refine GH2.take 12 rfl (by decide +kernel) (by decide +kernel) (by decide +kernel) rfl rfl (by decide) (PY.move rfl) ?_
                refine GH2.take 13 rfl (by decide +kernel) (by decide +kernel) (by decide +kernel) rfl rfl (by decide) (PY.index rfl rfl rfl (idx_spec hx9).1 (idx_spec hx9).2.1 Try.underlying22 Try.sizeOf3) ?_
                refine GH2.take 19 rfl (by decide +kernel) (by decide +kernel) (by decide +kernel) rfl rfl (by decide) (PY.move rfl) ?_
                refine GH2.any 14 [15, 16] (by decide +kernel) ⟨Turn.y 14 rfl rfl rfl (by decide) (YT.own (α := Int) rfl rfl rfl hx9 rfl Try.isAgg3 rfl rfl) ?_, Turn.y 15 rfl rfl rfl (by decide) (YL.loadN rfl rfl rfl Try.isAgg35 rfl rfl) ?_, Turn.y 16 rfl rfl rfl (by decide) (YL.loadN rfl rfl rfl Try.isAgg3 rfl rfl) ?_, trivial⟩
                · refine GH2.any 15 [16] (by decide +kernel) ⟨Turn.y 15 rfl rfl rfl (by decide) (YL.loadN rfl rfl rfl Try.isAgg35 rfl rfl) ?_, Turn.y 16 rfl rfl rfl (by decide) (YL.loadN rfl rfl rfl Try.isAgg3 rfl rfl) ?_, trivial⟩
                  · refine GH2.oneY 16 (by decide +kernel) rfl rfl rfl (by decide) (YL.loadN rfl rfl rfl Try.isAgg3 rfl rfl) ?_
                    refine GH2.take 17 rfl (by decide +kernel) (by decide +kernel) (by decide +kernel) rfl rfl (by decide) (PY.index rfl rfl rfl (idx_spec hx8).1 (idx_spec hx8).2.1 Try.underlying35 Try.sizeOf22) ?_
                    refine GH2.oneY 18 (by decide +kernel) rfl rfl rfl (by decide) (YT.own (α := (List Int)) rfl rfl rfl hx8 rfl Try.isAgg22 rfl rfl) ?_
                    refine GH2.take 20 rfl (by decide +kernel) (by decide +kernel) (by decide +kernel) rfl rfl (by decide) (PY.index rfl rfl rfl (idx_spec hx10).1 (idx_spec hx10).2.1 Try.underlying22 Try.sizeOf3) ?_
                    refine GH2.oneY 21 (by decide +kernel) rfl rfl rfl (by decide) (YT.elt (α := Int) rfl hx10 rfl Try.isAgg3) ?_
                    refine GH2.take 22 rfl (by decide +kernel) (by decide +kernel) (by decide +kernel) rfl rfl (by decide) (PY.bin rfl rfl rfl) ?_
                    refine GH2.take 23 rfl (by decide +kernel) (by decide +kernel) (by decide +kernel) rfl rfl (by decide) (PY.pickT rfl rfl) ?_
                    refine GH2.one 24 (by decide +kernel) rfl rfl (fun d e => by cases e) (EF.storeN (cells' := [.val (.bool (x9 == x10))]) rfl rfl rfl rfl rfl rfl rfl rfl Try.sizeOf4 (Nat.le_of_ble_eq_true rfl) rfl rfl) ?_
                    rintro _ rfl
                    refine GH2.done (by decide +kernel) ?_
                    cases H
                    exact And.intro rfl ⟨⟨rfl, rfl, rfl, rfl, rfl, rfl, rfl, rfl, trivial⟩, ⟨rfl, rfl, rfl, rfl, rfl, rfl, trivial⟩, rfl⟩
                  · refine GH2.oneY 15 (by decide +kernel) rfl rfl rfl (by decide) (YL.loadN rfl rfl rfl Try.isAgg35 rfl rfl) ?_
                    refine GH2.take 17 rfl (by decide +kernel) (by decide +kernel) (by decide +kernel) rfl rfl (by decide) (PY.index rfl rfl rfl (idx_spec hx8).1 (idx_spec hx8).2.1 Try.underlying35 Try.sizeOf22) ?_
                    refine GH2.oneY 18 (by decide +kernel) rfl rfl rfl (by decide) (YT.own (α := (List Int)) rfl rfl rfl hx8 rfl Try.isAgg22 rfl rfl) ?_
                    refine GH2.take 20 rfl (by decide +kernel) (by decide +kernel) (by decide +kernel) rfl rfl (by decide) (PY.index rfl rfl rfl (idx_spec hx10).1 (idx_spec hx10).2.1 Try.underlying22 Try.sizeOf3) ?_
                    refine GH2.oneY 21 (by decide +kernel) rfl rfl rfl (by decide) (YT.elt (α := Int) rfl hx10 rfl Try.isAgg3) ?_
                    refine GH2.take 22 rfl (by decide +kernel) (by decide +kernel) (by decide +kernel) rfl rfl (by decide) (PY.bin rfl rfl rfl) ?_
                    refine GH2.take 23 rfl (by decide +kernel) (by decide +kernel) (by decide +kernel) rfl rfl (by decide) (PY.pickT rfl rfl) ?_
                    refine GH2.one 24 (by decide +kernel) rfl rfl (fun d e => by cases e) (EF.storeN (cells' := [.val (.bool (x9 == x10))]) rfl rfl rfl rfl rfl rfl rfl rfl Try.sizeOf4 (Nat.le_of_ble_eq_true rfl) rfl rfl) ?_
                    rintro _ rfl
                    refine GH2.done (by decide +kernel) ?_
                    cases H
                    exact And.intro rfl ⟨⟨rfl, rfl, rfl, rfl, rfl, rfl, rfl, rfl, trivial⟩, ⟨rfl, rfl, rfl, rfl, rfl, rfl, trivial⟩, rfl⟩
                · refine GH2.any 14 [16] (by decide +kernel) ⟨Turn.y 14 rfl rfl rfl (by decide) (YT.own (α := Int) rfl rfl rfl hx9 rfl Try.isAgg3 rfl rfl) ?_, Turn.y 16 rfl rfl rfl (by decide) (YL.loadN rfl rfl rfl Try.isAgg3 rfl rfl) ?_, trivial⟩
                  · refine GH2.oneY 16 (by decide +kernel) rfl rfl rfl (by decide) (YL.loadN rfl rfl rfl Try.isAgg3 rfl rfl) ?_
                    refine GH2.take 17 rfl (by decide +kernel) (by decide +kernel) (by decide +kernel) rfl rfl (by decide) (PY.index rfl rfl rfl (idx_spec hx8).1 (idx_spec hx8).2.1 Try.underlying35 Try.sizeOf22) ?_
                    refine GH2.oneY 18 (by decide +kernel) rfl rfl rfl (by decide) (YT.own (α := (List Int)) rfl rfl rfl hx8 rfl Try.isAgg22 rfl rfl) ?_
                    refine GH2.take 20 rfl (by decide +kernel) (by decide +kernel) (by decide +kernel) rfl rfl (by decide) (PY.index rfl rfl rfl (idx_spec hx10).1 (idx_spec hx10).2.1 Try.underlying22 Try.sizeOf3) ?_
                    refine GH2.oneY 21 (by decide +kernel) rfl rfl rfl (by decide) (YT.elt (α := Int) rfl hx10 rfl Try.isAgg3) ?_
                    refine GH2.take 22 rfl (by decide +kernel) (by decide +kernel) (by decide +kernel) rfl rfl (by decide) (PY.bin rfl rfl rfl) ?_
                    refine GH2.take 23 rfl (by decide +kernel) (by decide +kernel) (by decide +kernel) rfl rfl (by decide) (PY.pickT rfl rfl) ?_
                    refine GH2.one 24 (by decide +kernel) rfl rfl (fun d e => by cases e) (EF.storeN (cells' := [.val (.bool (x9 == x10))]) rfl rfl rfl rfl rfl rfl rfl rfl Try.sizeOf4 (Nat.le_of_ble_eq_true rfl) rfl rfl) ?_
                    rintro _ rfl
                    refine GH2.done (by decide +kernel) ?_
                    cases H
                    exact And.intro rfl ⟨⟨rfl, rfl, rfl, rfl, rfl, rfl, rfl, rfl, trivial⟩, ⟨rfl, rfl, rfl, rfl, rfl, rfl, trivial⟩, rfl⟩
                  · refine GH2.take 17 rfl (by decide +kernel) (by decide +kernel) (by decide +kernel) rfl rfl (by decide) (PY.index rfl rfl rfl (idx_spec hx8).1 (idx_spec hx8).2.1 Try.underlying35 Try.sizeOf22) ?_
                    refine GH2.any 14 [18] (by decide +kernel) ⟨Turn.y 14 rfl rfl rfl (by decide) (YT.own (α := Int) rfl rfl rfl hx9 rfl Try.isAgg3 rfl rfl) ?_, Turn.y 18 rfl rfl rfl (by decide) (YT.own (α := (List Int)) rfl rfl rfl hx8 rfl Try.isAgg22 rfl rfl) ?_, trivial⟩
                    · refine GH2.oneY 18 (by decide +kernel) rfl rfl rfl (by decide) (YT.own (α := (List Int)) rfl rfl rfl hx8 rfl Try.isAgg22 rfl rfl) ?_
                      refine GH2.take 20 rfl (by decide +kernel) (by decide +kernel) (by decide +kernel) rfl rfl (by decide) (PY.index rfl rfl rfl (idx_spec hx10).1 (idx_spec hx10).2.1 Try.underlying22 Try.sizeOf3) ?_
                      refine GH2.oneY 21 (by decide +kernel) rfl rfl rfl (by decide) (YT.elt (α := Int) rfl hx10 rfl Try.isAgg3) ?_
                      refine GH2.take 22 rfl (by decide +kernel) (by decide +kernel) (by decide +kernel) rfl rfl (by decide) (PY.bin rfl rfl rfl) ?_
                      refine GH2.take 23 rfl (by decide +kernel) (by decide +kernel) (by decide +kernel) rfl rfl (by decide) (PY.pickT rfl rfl) ?_
                      refine GH2.one 24 (by decide +kernel) rfl rfl (fun d e => by cases e) (EF.storeN (cells' := [.val (.bool (x9 == x10))]) rfl rfl rfl rfl rfl rfl rfl rfl Try.sizeOf4 (Nat.le_of_ble_eq_true rfl) rfl rfl) ?_
                      rintro _ rfl
                      refine GH2.done (by decide +kernel) ?_
                      cases H
                      exact And.intro rfl ⟨⟨rfl, rfl, rfl, rfl, rfl, rfl, rfl, rfl, trivial⟩, ⟨rfl, rfl, rfl, rfl, rfl, rfl, trivial⟩, rfl⟩
                    · refine GH2.take 20 rfl (by decide +kernel) (by decide +kernel) (by decide +kernel) rfl rfl (by decide) (PY.index rfl rfl rfl (idx_spec hx10).1 (idx_spec hx10).2.1 Try.underlying22 Try.sizeOf3) ?_
                      refine GH2.any 14 [21] (by decide +kernel) ⟨Turn.y 14 rfl rfl rfl (by decide) (YT.own (α := Int) rfl rfl rfl hx9 rfl Try.isAgg3 rfl rfl) ?_, Turn.y 21 rfl rfl rfl (by decide) (YT.elt (α := Int) rfl hx10 rfl Try.isAgg3) ?_, trivial⟩
                      · refine GH2.oneY 21 (by decide +kernel) rfl rfl rfl (by decide) (YT.elt (α := Int) rfl hx10 rfl Try.isAgg3) ?_
                        refine GH2.take 22 rfl (by decide +kernel) (by decide +kernel) (by decide +kernel) rfl rfl (by decide) (PY.bin rfl rfl rfl) ?_
                        refine GH2.take 23 rfl (by decide +kernel) (by decide +kernel) (by decide +kernel) rfl rfl (by decide) (PY.pickT rfl rfl) ?_
                        refine GH2.one 24 (by decide +kernel) rfl rfl (fun d e => by cases e) (EF.storeN (cells' := [.val (.bool (x9 == x10))]) rfl rfl rfl rfl rfl rfl rfl rfl Try.sizeOf4 (Nat.le_of_ble_eq_true rfl) rfl rfl) ?_
                        rintro _ rfl
                        refine GH2.done (by decide +kernel) ?_
                        cases H
                        exact And.intro rfl ⟨⟨rfl, rfl, rfl, rfl, rfl, rfl, rfl, rfl, trivial⟩, ⟨rfl, rfl, rfl, rfl, rfl, rfl, trivial⟩, rfl⟩
                      · refine GH2.oneY 14 (by decide +kernel) rfl rfl rfl (by decide) (YT.own (α := Int) rfl rfl rfl hx9 rfl Try.isAgg3 rfl rfl) ?_
                        refine GH2.take 22 rfl (by decide +kernel) (by decide +kernel) (by decide +kernel) rfl rfl (by decide) (PY.bin rfl rfl rfl) ?_
                        refine GH2.take 23 rfl (by decide +kernel) (by decide +kernel) (by decide +kernel) rfl rfl (by decide) (PY.pickT rfl rfl) ?_
                        refine GH2.one 24 (by decide +kernel) rfl rfl (fun d e => by cases e) (EF.storeN (cells' := [.val (.bool (x9 == x10))]) rfl rfl rfl rfl rfl rfl rfl rfl Try.sizeOf4 (Nat.le_of_ble_eq_true rfl) rfl rfl) ?_
                        rintro _ rfl
                        refine GH2.done (by decide +kernel) ?_
                        cases H
                        exact And.intro rfl ⟨⟨rfl, rfl, rfl, rfl, rfl, rfl, rfl, rfl, trivial⟩, ⟨rfl, rfl, rfl, rfl, rfl, rfl, trivial⟩, rfl⟩
                · refine GH2.any 14 [15] (by decide +kernel) ⟨Turn.y 14 rfl rfl rfl (by decide) (YT.own (α := Int) rfl rfl rfl hx9 rfl Try.isAgg3 rfl rfl) ?_, Turn.y 15 rfl rfl rfl (by decide) (YL.loadN rfl rfl rfl Try.isAgg35 rfl rfl) ?_, trivial⟩
                  · refine GH2.oneY 15 (by decide +kernel) rfl rfl rfl (by decide) (YL.loadN rfl rfl rfl Try.isAgg35 rfl rfl) ?_
                    refine GH2.take 17 rfl (by decide +kernel) (by decide +kernel) (by decide +kernel) rfl rfl (by decide) (PY.index rfl rfl rfl (idx_spec hx8).1 (idx_spec hx8).2.1 Try.underlying35 Try.sizeOf22) ?_
                    refine GH2.oneY 18 (by decide +kernel) rfl rfl rfl (by decide) (YT.own (α := (List Int)) rfl rfl rfl hx8 rfl Try.isAgg22 rfl rfl) ?_
                    refine GH2.take 20 rfl (by decide +kernel) (by decide +kernel) (by decide +kernel) rfl rfl (by decide) (PY.index rfl rfl rfl (idx_spec hx10).1 (idx_spec hx10).2.1 Try.underlying22 Try.sizeOf3) ?_
                    refine GH2.oneY 21 (by decide +kernel) rfl rfl rfl (by decide) (YT.elt (α := Int) rfl hx10 rfl Try.isAgg3) ?_
                    refine GH2.take 22 rfl (by decide +kernel) (by decide +kernel) (by decide +kernel) rfl rfl (by decide) (PY.bin rfl rfl rfl) ?_
                    refine GH2.take 23 rfl (by decide +kernel) (by decide +kernel) (by decide +kernel) rfl rfl (by decide) (PY.pickT rfl rfl) ?_
                    refine GH2.one 24 (by decide +kernel) rfl rfl (fun d e => by cases e) (EF.storeN (cells' := [.val (.bool (x9 == x10))]) rfl rfl rfl rfl rfl rfl rfl rfl Try.sizeOf4 (Nat.le_of_ble_eq_true rfl) rfl rfl) ?_
                    rintro _ rfl
                    refine GH2.done (by decide +kernel) ?_
                    cases H
                    exact And.intro rfl ⟨⟨rfl, rfl, rfl, rfl, rfl, rfl, rfl, rfl, trivial⟩, ⟨rfl, rfl, rfl, rfl, rfl, rfl, trivial⟩, rfl⟩
                  · refine GH2.take 17 rfl (by decide +kernel) (by decide +kernel) (by decide +kernel) rfl rfl (by decide) (PY.index rfl rfl rfl (idx_spec hx8).1 (idx_spec hx8).2.1 Try.underlying35 Try.sizeOf22) ?_
                    refine GH2.any 14 [18] (by decide +kernel) ⟨Turn.y 14 rfl rfl rfl (by decide) (YT.own (α := Int) rfl rfl rfl hx9 rfl Try.isAgg3 rfl rfl) ?_, Turn.y 18 rfl rfl rfl (by decide) (YT.own (α := (List Int)) rfl rfl rfl hx8 rfl Try.isAgg22 rfl rfl) ?_, trivial⟩
                    · refine GH2.oneY 18 (by decide +kernel) rfl rfl rfl (by decide) (YT.own (α := (List Int)) rfl rfl rfl hx8 rfl Try.isAgg22 rfl rfl) ?_
                      refine GH2.take 20 rfl (by decide +kernel) (by decide +kernel) (by decide +kernel) rfl rfl (by decide) (PY.index rfl rfl rfl (idx_spec hx10).1 (idx_spec hx10).2.1 Try.underlying22 Try.sizeOf3) ?_
                      refine GH2.oneY 21 (by decide +kernel) rfl rfl rfl (by decide) (YT.elt (α := Int) rfl hx10 rfl Try.isAgg3) ?_
                      refine GH2.take 22 rfl (by decide +kernel) (by decide +kernel) (by decide +kernel) rfl rfl (by decide) (PY.bin rfl rfl rfl) ?_
                      refine GH2.take 23 rfl (by decide +kernel) (by decide +kernel) (by decide +kernel) rfl rfl (by decide) (PY.pickT rfl rfl) ?_
                      refine GH2.one 24 (by decide +kernel) rfl rfl (fun d e => by cases e) (EF.storeN (cells' := [.val (.bool (x9 == x10))]) rfl rfl rfl rfl rfl rfl rfl rfl Try.sizeOf4 (Nat.le_of_ble_eq_true rfl) rfl rfl) ?_
                      rintro _ rfl
                      refine GH2.done (by decide +kernel) ?_
                      cases H
                      exact And.intro rfl ⟨⟨rfl, rfl, rfl, rfl, rfl, rfl, rfl, rfl, trivial⟩, ⟨rfl, rfl, rfl, rfl, rfl, rfl, trivial⟩, rfl⟩
                    · refine GH2.take 20 rfl (by decide +kernel) (by decide +kernel) (by decide +kernel) rfl rfl (by decide) (PY.index rfl rfl rfl (idx_spec hx10).1 (idx_spec hx10).2.1 Try.underlying22 Try.sizeOf3) ?_
                      refine GH2.any 14 [21] (by decide +kernel) ⟨Turn.y 14 rfl rfl rfl (by decide) (YT.own (α := Int) rfl rfl rfl hx9 rfl Try.isAgg3 rfl rfl) ?_, Turn.y 21 rfl rfl rfl (by decide) (YT.elt (α := Int) rfl hx10 rfl Try.isAgg3) ?_, trivial⟩
                      · refine GH2.oneY 21 (by decide +kernel) rfl rfl rfl (by decide) (YT.elt (α := Int) rfl hx10 rfl Try.isAgg3) ?_
                        refine GH2.take 22 rfl (by decide +kernel) (by decide +kernel) (by decide +kernel) rfl rfl (by decide) (PY.bin rfl rfl rfl) ?_
                        refine GH2.take 23 rfl (by decide +kernel) (by decide +kernel) (by decide +kernel) rfl rfl (by decide) (PY.pickT rfl rfl) ?_
                        refine GH2.one 24 (by decide +kernel) rfl rfl (fun d e => by cases e) (EF.storeN (cells' := [.val (.bool (x9 == x10))]) rfl rfl rfl rfl rfl rfl rfl rfl Try.sizeOf4 (Nat.le_of_ble_eq_true rfl) rfl rfl) ?_
                        rintro _ rfl
                        refine GH2.done (by decide +kernel) ?_
                        cases H
                        exact And.intro rfl ⟨⟨rfl, rfl, rfl, rfl, rfl, rfl, rfl, rfl, trivial⟩, ⟨rfl, rfl, rfl, rfl, rfl, rfl, trivial⟩, rfl⟩
                      · refine GH2.oneY 14 (by decide +kernel) rfl rfl rfl (by decide) (YT.own (α := Int) rfl rfl rfl hx9 rfl Try.isAgg3 rfl rfl) ?_
                        refine GH2.take 22 rfl (by decide +kernel) (by decide +kernel) (by decide +kernel) rfl rfl (by decide) (PY.bin rfl rfl rfl) ?_
                        refine GH2.take 23 rfl (by decide +kernel) (by decide +kernel) (by decide +kernel) rfl rfl (by decide) (PY.pickT rfl rfl) ?_
                        refine GH2.one 24 (by decide +kernel) rfl rfl (fun d e => by cases e) (EF.storeN (cells' := [.val (.bool (x9 == x10))]) rfl rfl rfl rfl rfl rfl rfl rfl Try.sizeOf4 (Nat.le_of_ble_eq_true rfl) rfl rfl) ?_
                        rintro _ rfl
                        refine GH2.done (by decide +kernel) ?_
                        cases H
                        exact And.intro rfl ⟨⟨rfl, rfl, rfl, rfl, rfl, rfl, rfl, rfl, trivial⟩, ⟨rfl, rfl, rfl, rfl, rfl, rfl, trivial⟩, rfl⟩
              · refine GH2.oneY 3 (by decide +kernel) rfl rfl rfl (by decide) (YL.loadN rfl rfl rfl Try.isAgg35 rfl rfl) ?_
                refine GH2.take 5 rfl (by decide +kernel) (by decide +kernel) (by decide +kernel) rfl rfl (by decide) (PY.index rfl rfl rfl (idx_spec hx8).1 (idx_spec hx8).2.1 Try.underlying35 Try.sizeOf22) ?_
                refine GH2.oneY 6 (by decide +kernel) rfl rfl rfl (by decide) (YT.own (α := (List Int)) rfl rfl rfl hx8 rfl Try.isAgg22 rfl rfl) ?_
                refine GH2.take 7 rfl (by decide +kernel) (by decide +kernel) (by decide +kernel) rfl rfl (by decide) (PY.len rfl rfl Try.underlying22) ?_
                refine GH2.take 8 rfl (by decide +kernel) (by decide +kernel) (by decide +kernel) rfl rfl (by decide) (PY.bin rfl rfl rfl) ?_
                refine GH2.take 9 rfl (by decide +kernel) (by decide +kernel) (by decide +kernel) rfl rfl (by decide) (PY.pickT rfl rfl) ?_
                refine GH2.take 10 rfl (by decide +kernel) (by decide +kernel) (by decide +kernel) rfl rfl (by decide) (PY.move rfl) ?_
                refine GH2.lit 44 rfl hg6 ?_
                refine GH2.take 11 rfl (by decide +kernel) (by decide +kernel) (by decide +kernel) rfl rfl (by decide) (PY.move rfl) ?_
                refine GH2.take 12 rfl (by decide +kernel) (by decide +kernel) (by decide +kernel) rfl rfl (by decide) (PY.move rfl) ?_
                refine GH2.take 13 rfl (by decide +kernel) (by decide +kernel) (by decide +kernel) rfl rfl (by decide) (PY.index rfl rfl rfl (idx_spec hx9).1 (idx_spec hx9).2.1 Try.underlying22 Try.sizeOf3) ?_
                refine GH2.take 19 rfl (by decide +kernel) (by decide +kernel) (by decide +kernel) rfl rfl (by decide) (PY.move rfl) ?_
                refine GH2.any 14 [15, 16] (by decide +kernel) ⟨Turn.y 14 rfl rfl rfl (by decide) (YT.own (α := Int) rfl rfl rfl hx9 rfl Try.isAgg3 rfl rfl) ?_, Turn.y 15 rfl rfl rfl (by decide) (YL.loadN rfl rfl rfl Try.isAgg35 rfl rfl) ?_, Turn.y 16 rfl rfl rfl (by decide) (YL.loadN rfl rfl rfl Try.isAgg3 rfl rfl) ?_, trivial⟩
                · refine GH2.any 15 [16] (by decide +kernel) ⟨Turn.y 15 rfl rfl rfl (by decide) (YL.loadN rfl rfl rfl Try.isAgg35 rfl rfl) ?_, Turn.y 16 rfl rfl rfl (by decide) (YL.loadN rfl rfl rfl Try.isAgg3 rfl rfl) ?_, trivial⟩
                  · refine GH2.oneY 16 (by decide +kernel) rfl rfl rfl (by decide) (YL.loadN rfl rfl rfl Try.isAgg3 rfl rfl) ?_
                    refine GH2.take 17 rfl (by decide +kernel) (by decide +kernel) (by decide +kernel) rfl rfl (by decide) (PY.index rfl rfl rfl (idx_spec hx8).1 (idx_spec hx8).2.1 Try.underlying35 Try.sizeOf22) ?_
                    refine GH2.oneY 18 (by decide +kernel) rfl rfl rfl (by decide) (YT.own (α := (List Int)) rfl rfl rfl hx8 rfl Try.isAgg22 rfl rfl) ?_
                    refine GH2.take 20 rfl (by decide +kernel) (by decide +kernel) (by decide +kernel) rfl rfl (by decide) (PY.index rfl rfl rfl (idx_spec hx10).1 (idx_spec hx10).2.1 Try.underlying22 Try.sizeOf3) ?_
                    refine GH2.oneY 21 (by decide +kernel) rfl rfl rfl (by decide) (YT.elt (α := Int) rfl hx10 rfl Try.isAgg3) ?_
                    refine GH2.take 22 rfl (by decide +kernel) (by decide +kernel) (by decide +kernel) rfl rfl (by decide) (PY.bin rfl rfl rfl) ?_
                    refine GH2.take 23 rfl (by decide +kernel) (by decide +kernel) (by decide +kernel) rfl rfl (by decide) (PY.pickT rfl rfl) ?_
                    refine GH2.one 24 (by decide +kernel) rfl rfl (fun d e => by cases e) (EF.storeN (cells' := [.val (.bool (x9 == x10))]) rfl rfl rfl rfl rfl rfl rfl rfl Try.sizeOf4 (Nat.le_of_ble_eq_true rfl) rfl rfl) ?_
                    rintro _ rfl
                    refine GH2.done (by decide +kernel) ?_
                    cases H
                    exact And.intro rfl ⟨⟨rfl, rfl, rfl, rfl, rfl, rfl, rfl, rfl, trivial⟩, ⟨rfl, rfl, rfl, rfl, rfl, rfl, trivial⟩, rfl⟩
                  · refine GH2.oneY 15 (by decide +kernel) rfl rfl rfl (by decide) (YL.loadN rfl rfl rfl Try.isAgg35 rfl rfl) ?_
                    refine GH2.take 17 rfl (by decide +kernel) (by decide +kernel) (by decide +kernel) rfl rfl (by decide) (PY.index rfl rfl rfl (idx_spec hx8).1 (idx_spec hx8).2.1 Try.underlying35 Try.sizeOf22) ?_
                    refine GH2.oneY 18 (by decide +kernel) rfl rfl rfl (by decide) (YT.own (α := (List Int)) rfl rfl rfl hx8 rfl Try.isAgg22 rfl rfl) ?_
                    refine GH2.take 20 rfl (by decide +kernel) (by decide +kernel) (by decide +kernel) rfl rfl (by decide) (PY.index rfl rfl rfl (idx_spec hx10).1 (idx_spec hx10).2.1 Try.underlying22 Try.sizeOf3) ?_
                    refine GH2.oneY 21 (by decide +kernel) rfl rfl rfl (by decide) (YT.elt (α := Int) rfl hx10 rfl Try.isAgg3) ?_
                    refine GH2.take 22 rfl (by decide +kernel) (by decide +kernel) (by decide +kernel) rfl rfl (by decide) (PY.bin rfl rfl rfl) ?_
                    refine GH2.take 23 rfl (by decide +kernel) (by decide +kernel) (by decide +kernel) rfl rfl (by decide) (PY.pickT rfl rfl) ?_
                    refine GH2.one 24 (by decide +kernel) rfl rfl (fun d e => by cases e) (EF.storeN (cells' := [.val (.bool (x9 == x10))]) rfl rfl rfl rfl rfl rfl rfl rfl Try.sizeOf4 (Nat.le_of_ble_eq_true rfl) rfl rfl) ?_
                    rintro _ rfl
                    refine GH2.done (by decide +kernel) ?_
                    cases H
                    exact And.intro rfl ⟨⟨rfl, rfl, rfl, rfl, rfl, rfl, rfl, rfl, trivial⟩, ⟨rfl, rfl, rfl, rfl, rfl, rfl, trivial⟩, rfl⟩
                · refine GH2.any 14 [16] (by decide +kernel) ⟨Turn.y 14 rfl rfl rfl (by decide) (YT.own (α := Int) rfl rfl rfl hx9 rfl Try.isAgg3 rfl rfl) ?_, Turn.y 16 rfl rfl rfl (by decide) (YL.loadN rfl rfl rfl Try.isAgg3 rfl rfl) ?_, trivial⟩
                  · refine GH2.oneY 16 (by decide +kernel) rfl rfl rfl (by decide) (YL.loadN rfl rfl rfl Try.isAgg3 rfl rfl) ?_
                    refine GH2.take 17 rfl (by decide +kernel) (by decide +kernel) (by decide +kernel) rfl rfl (by decide) (PY.index rfl rfl rfl (idx_spec hx8).1 (idx_spec hx8).2.1 Try.underlying35 Try.sizeOf22) ?_
                    refine GH2.oneY 18 (by decide +kernel) rfl rfl rfl (by decide) (YT.own (α := (List Int)) rfl rfl rfl hx8 rfl Try.isAgg22 rfl rfl) ?_
                    refine GH2.take 20 rfl (by decide +kernel) (by decide +kernel) (by decide +kernel) rfl rfl (by decide) (PY.index rfl rfl rfl (idx_spec hx10).1 (idx_spec hx10).2.1 Try.underlying22 Try.sizeOf3) ?_
                    refine GH2.oneY 21 (by decide +kernel) rfl rfl rfl (by decide) (YT.elt (α := Int) rfl hx10 rfl Try.isAgg3) ?_
                    refine GH2.take 22 rfl (by decide +kernel) (by decide +kernel) (by decide +kernel) rfl rfl (by decide) (PY.bin rfl rfl rfl) ?_
                    refine GH2.take 23 rfl (by decide +kernel) (by decide +kernel) (by decide +kernel) rfl rfl (by decide) (PY.pickT rfl rfl) ?_
                    refine GH2.one 24 (by decide +kernel) rfl rfl (fun d e => by cases e) (EF.storeN (cells' := [.val (.bool (x9 == x10))]) rfl rfl rfl rfl rfl rfl rfl rfl Try.sizeOf4 (Nat.le_of_ble_eq_true rfl) rfl rfl) ?_
                    rintro _ rfl
                    refine GH2.done (by decide +kernel) ?_
                    cases H
                    exact And.intro rfl ⟨⟨rfl, rfl, rfl, rfl, rfl, rfl, rfl, rfl, trivial⟩, ⟨rfl, rfl, rfl, rfl, rfl, rfl, trivial⟩, rfl⟩
                  · refine GH2.take 17 rfl (by decide +kernel) (by decide +kernel) (by decide +kernel) rfl rfl (by decide) (PY.index rfl rfl rfl (idx_spec hx8).1 (idx_spec hx8).2.1 Try.underlying35 Try.sizeOf22) ?_
                    refine GH2.any 14 [18] (by decide +kernel) ⟨Turn.y 14 rfl rfl rfl (by decide) (YT.own (α := Int) rfl rfl rfl hx9 rfl Try.isAgg3 rfl rfl) ?_, Turn.y 18 rfl rfl rfl (by decide) (YT.own (α := (List Int)) rfl rfl rfl hx8 rfl Try.isAgg22 rfl rfl) ?_, trivial⟩
                    · refine GH2.oneY 18 (by decide +kernel) rfl rfl rfl (by decide) (YT.own (α := (List Int)) rfl rfl rfl hx8 rfl Try.isAgg22 rfl rfl) ?_
                      refine GH2.take 20 rfl (by decide +kernel) (by decide +kernel) (by decide +kernel) rfl rfl (by decide) (PY.index rfl rfl rfl (idx_spec hx10).1 (idx_spec hx10).2.1 Try.underlying22 Try.sizeOf3) ?_
                      refine GH2.oneY 21 (by decide +kernel) rfl rfl rfl (by decide) (YT.elt (α := Int) rfl hx10 rfl Try.isAgg3) ?_
                      refine GH2.take 22 rfl (by decide +kernel) (by decide +kernel) (by decide +kernel) rfl rfl (by decide) (PY.bin rfl rfl rfl) ?_
                      refine GH2.take 23 rfl (by decide +kernel) (by decide +kernel) (by decide +kernel) rfl rfl (by decide) (PY.pickT rfl rfl) ?_
                      refine GH2.one 24 (by decide +kernel) rfl rfl (fun d e => by cases e) (EF.storeN (cells' := [.val (.bool (x9 == x10))]) rfl rfl rfl rfl rfl rfl rfl rfl Try.sizeOf4 (Nat.le_of_ble_eq_true rfl) rfl rfl) ?_
                      rintro _ rfl
                      refine GH2.done (by decide +kernel) ?_
                      cases H
                      exact And.intro rfl ⟨⟨rfl, rfl, rfl, rfl, rfl, rfl, rfl, rfl, trivial⟩, ⟨rfl, rfl, rfl, rfl, rfl, rfl, trivial⟩, rfl⟩
                    · refine GH2.take 20 rfl (by decide +kernel) (by decide +kernel) (by decide +kernel) rfl rfl (by decide) (PY.index rfl rfl rfl (idx_spec hx10).1 (idx_spec hx10).2.1 Try.underlying22 Try.sizeOf3) ?_
                      refine GH2.any 14 [21] (by decide +kernel) ⟨Turn.y 14 rfl rfl rfl (by decide) (YT.own (α := Int) rfl rfl rfl hx9 rfl Try.isAgg3 rfl rfl) ?_, Turn.y 21 rfl rfl rfl (by decide) (YT.elt (α := Int) rfl hx10 rfl Try.isAgg3) ?_, trivial⟩
                      · refine GH2.oneY 21 (by decide +kernel) rfl rfl rfl (by decide) (YT.elt (α := Int) rfl hx10 rfl Try.isAgg3) ?_
                        refine GH2.take 22 rfl (by decide +kernel) (by decide +kernel) (by decide +kernel) rfl rfl (by decide) (PY.bin rfl rfl rfl) ?_
                        refine GH2.take 23 rfl (by decide +kernel) (by decide +kernel) (by decide +kernel) rfl rfl (by decide) (PY.pickT rfl rfl) ?_
                        refine GH2.one 24 (by decide +kernel) rfl rfl (fun d e => by cases e) (EF.storeN (cells' := [.val (.bool (x9 == x10))]) rfl rfl rfl rfl rfl rfl rfl rfl Try.sizeOf4 (Nat.le_of_ble_eq_true rfl) rfl rfl) ?_
                        rintro _ rfl
                        refine GH2.done (by decide +kernel) ?_
                        cases H
                        exact And.intro rfl ⟨⟨rfl, rfl, rfl, rfl, rfl, rfl, rfl, rfl, trivial⟩, ⟨rfl, rfl, rfl, rfl, rfl, rfl, trivial⟩, rfl⟩
                      · refine GH2.oneY 14 (by decide +kernel) rfl rfl rfl (by decide) (YT.own (α := Int) rfl rfl rfl hx9 rfl Try.isAgg3 rfl rfl) ?_
                        refine GH2.take 22 rfl (by decide +kernel) (by decide +kernel) (by decide +kernel) rfl rfl (by decide) (PY.bin rfl rfl rfl) ?_
                        refine GH2.take 23 rfl (by decide +kernel) (by decide +kernel) (by decide +kernel) rfl rfl (by decide) (PY.pickT rfl rfl) ?_
                        refine GH2.one 24 (by decide +kernel) rfl rfl (fun d e => by cases e) (EF.storeN (cells' := [.val (.bool (x9 == x10))]) rfl rfl rfl rfl rfl rfl rfl rfl Try.sizeOf4 (Nat.le_of_ble_eq_true rfl) rfl rfl) ?_
                        rintro _ rfl
                        refine GH2.done (by decide +kernel) ?_
                        cases H
                        exact And.intro rfl ⟨⟨rfl, rfl, rfl, rfl, rfl, rfl, rfl, rfl, trivial⟩, ⟨rfl, rfl, rfl, rfl, rfl, rfl, trivial⟩, rfl⟩
                · refine GH2.any 14 [15] (by decide +kernel) ⟨Turn.y 14 rfl rfl rfl (by decide) (YT.own (α := Int) rfl rfl rfl hx9 rfl Try.isAgg3 rfl rfl) ?_, Turn.y 15 rfl rfl rfl (by decide) (YL.loadN rfl rfl rfl Try.isAgg35 rfl rfl) ?_, trivial⟩
                  · refine GH2.oneY 15 (by decide +kernel) rfl rfl rfl (by decide) (YL.loadN rfl rfl rfl Try.isAgg35 rfl rfl) ?_
                    refine GH2.take 17 rfl (by decide +kernel) (by decide +kernel) (by decide +kernel) rfl rfl (by decide) (PY.index rfl rfl rfl (idx_spec hx8).1 (idx_spec hx8).2.1 Try.underlying35 Try.sizeOf22) ?_
                    refine GH2.oneY 18 (by decide +kernel) rfl rfl rfl (by decide) (YT.own (α := (List Int)) rfl rfl rfl hx8 rfl Try.isAgg22 rfl rfl) ?_
                    refine GH2.take 20 rfl (by decide +kernel) (by decide +kernel) (by decide +kernel) rfl rfl (by decide) (PY.index rfl rfl rfl (idx_spec hx10).1 (idx_spec hx10).2.1 Try.underlying22 Try.sizeOf3) ?_
                    refine GH2.oneY 21 (by decide +kernel) rfl rfl rfl (by decide) (YT.elt (α := Int) rfl hx10 rfl Try.isAgg3) ?_
                    refine GH2.take 22 rfl (by decide +kernel) (by decide +kernel) (by decide +kernel) rfl rfl (by decide) (PY.bin rfl rfl rfl) ?_
                    refine GH2.take 23 rfl (by decide +kernel) (by decide +kernel) (by decide +kernel) rfl rfl (by decide) (PY.pickT rfl rfl) ?_
                    refine GH2.one 24 (by decide +kernel) rfl rfl (fun d e => by cases e) (EF.storeN (cells' := [.val (.bool (x9 == x10))]) rfl rfl rfl rfl rfl rfl rfl rfl Try.sizeOf4 (Nat.le_of_ble_eq_true rfl) rfl rfl) ?_
                    rintro _ rfl
                    refine GH2.done (by decide +kernel) ?_
                    cases H
                    exact And.intro rfl ⟨⟨rfl, rfl, rfl, rfl, rfl, rfl, rfl, rfl, trivial⟩, ⟨rfl, rfl, rfl, rfl, rfl, rfl, trivial⟩, rfl⟩
                  · refine GH2.take 17 rfl (by decide +kernel) (by decide +kernel) (by decide +kernel) rfl rfl (by decide) (PY.index rfl rfl rfl (idx_spec hx8).1 (idx_spec hx8).2.1 Try.underlying35 Try.sizeOf22) ?_
                    refine GH2.any 14 [18] (by decide +kernel) ⟨Turn.y 14 rfl rfl rfl (by decide) (YT.own (α := Int) rfl rfl rfl hx9 rfl Try.isAgg3 rfl rfl) ?_, Turn.y 18 rfl rfl rfl (by decide) (YT.own (α := (List Int)) rfl rfl rfl hx8 rfl Try.isAgg22 rfl rfl) ?_, trivial⟩
                    · refine GH2.oneY 18 (by decide +kernel) rfl rfl rfl (by decide) (YT.own (α := (List Int)) rfl rfl rfl hx8 rfl Try.isAgg22 rfl rfl) ?_
                      refine GH2.take 20 rfl (by decide +kernel) (by decide +kernel) (by decide +kernel) rfl rfl (by decide) (PY.index rfl rfl rfl (idx_spec hx10).1 (idx_spec hx10).2.1 Try.underlying22 Try.sizeOf3) ?_
                      refine GH2.oneY 21 (by decide +kernel) rfl rfl rfl (by decide) (YT.elt (α := Int) rfl hx10 rfl Try.isAgg3) ?_
                      refine GH2.take 22 rfl (by decide +kernel) (by decide +kernel) (by decide +kernel) rfl rfl (by decide) (PY.bin rfl rfl rfl) ?_
                      refine GH2.take 23 rfl (by decide +kernel) (by decide +kernel) (by decide +kernel) rfl rfl (by decide) (PY.pickT rfl rfl) ?_
                      refine GH2.one 24 (by decide +kernel) rfl rfl (fun d e => by cases e) (EF.storeN (cells' := [.val (.bool (x9 == x10))]) rfl rfl rfl rfl rfl rfl rfl rfl Try.sizeOf4 (Nat.le_of_ble_eq_true rfl) rfl rfl) ?_
                      rintro _ rfl
                      refine GH2.done (by decide +kernel) ?_
                      cases H
                      exact And.intro rfl ⟨⟨rfl, rfl, rfl, rfl, rfl, rfl, rfl, rfl, trivial⟩, ⟨rfl, rfl, rfl, rfl, rfl, rfl, trivial⟩, rfl⟩
                    · refine GH2.take 20 rfl (by decide +kernel) (by decide +kernel) (by decide +kernel) rfl rfl (by decide) (PY.index rfl rfl rfl (idx_spec hx10).1 (idx_spec hx10).2.1 Try.underlying22 Try.sizeOf3) ?_
                      refine GH2.any 14 [21] (by decide +kernel) ⟨Turn.y 14 rfl rfl rfl (by decide) (YT.own (α := Int) rfl rfl rfl hx9 rfl Try.isAgg3 rfl rfl) ?_, Turn.y 21 rfl rfl rfl (by decide) (YT.elt (α := Int) rfl hx10 rfl Try.isAgg3) ?_, trivial⟩
                      · refine GH2.oneY 21 (by decide +kernel) rfl rfl rfl (by decide) (YT.elt (α := Int) rfl hx10 rfl Try.isAgg3) ?_
                        refine GH2.take 22 rfl (by decide +kernel) (by decide +kernel) (by decide +kernel) rfl rfl (by decide) (PY.bin rfl rfl rfl) ?_
                        refine GH2.take 23 rfl (by decide +kernel) (by decide +kernel) (by decide +kernel) rfl rfl (by decide) (PY.pickT rfl rfl) ?_
                        refine GH2.one 24 (by decide +kernel) rfl rfl (fun d e => by cases e) (EF.storeN (cells' := [.val (.bool (x9 == x10))]) rfl rfl rfl rfl rfl rfl rfl rfl Try.sizeOf4 (Nat.le_of_ble_eq_true rfl) rfl rfl) ?_
                        rintro _ rfl
                        refine GH2.done (by decide +kernel) ?_
                        cases H
                        exact And.intro rfl ⟨⟨rfl, rfl, rfl, rfl, rfl, rfl, rfl, rfl, trivial⟩, ⟨rfl, rfl, rfl, rfl, rfl, rfl, trivial⟩, rfl⟩
                      · refine GH2.oneY 14 (by decide +kernel) rfl rfl rfl (by decide) (YT.own (α := Int) rfl rfl rfl hx9 rfl Try.isAgg3 rfl rfl) ?_
                        refine GH2.take 22 rfl (by decide +kernel) (by decide +kernel) (by decide +kernel) rfl rfl (by decide) (PY.bin rfl rfl rfl) ?_
                        refine GH2.take 23 rfl (by decide +kernel) (by decide +kernel) (by decide +kernel) rfl rfl (by decide) (PY.pickT rfl rfl) ?_
                        refine GH2.one 24 (by decide +kernel) rfl rfl (fun d e => by cases e) (EF.storeN (cells' := [.val (.bool (x9 == x10))]) rfl rfl rfl rfl rfl rfl rfl rfl Try.sizeOf4 (Nat.le_of_ble_eq_true rfl) rfl rfl) ?_
                        rintro _ rfl
                        refine GH2.done (by decide +kernel) ?_
                        cases H
                        exact And.intro rfl ⟨⟨rfl, rfl, rfl, rfl, rfl, rfl, rfl, rfl, trivial⟩, ⟨rfl, rfl, rfl, rfl, rfl, rfl, trivial⟩, rfl⟩
            · have H := condF hg6 H
              refine GW.draws [1001] mixed ?_
              change GH1 _ _ _ _ _ _ 25 _ _
              refine GH1.later ?_
              refine GH2.oneY 0 (by decide +kernel) rfl rfl rfl (by decide) (YL.loadN rfl rfl rfl Try.isAgg4 rfl rfl) ?_
              refine GH2.take 1 rfl (by decide +kernel) (by decide +kernel) (by decide +kernel) rfl rfl (by decide) (PY.move rfl) ?_
              refine GH2.lit 35 rfl hg5 ?_
              refine GH2.take 2 rfl (by decide +kernel) (by decide +kernel) (by decide +kernel) rfl rfl (by decide) (PY.move rfl) ?_
              refine GH2.any 3 [4] (by decide +kernel) ⟨Turn.y 3 rfl rfl rfl (by decide) (YL.loadN rfl rfl rfl Try.isAgg35 rfl rfl) ?_, Turn.y 4 rfl rfl rfl (by decide) (YL.loadN rfl rfl rfl Try.isAgg3 rfl rfl) ?_, trivial⟩
              · refine GH2.oneY 4 (by decide +kernel) rfl rfl rfl (by decide) (YL.loadN rfl rfl rfl Try.isAgg3 rfl rfl) ?_
                refine GH2.take 5 rfl (by decide +kernel) (by decide +kernel) (by decide +kernel) rfl rfl (by decide) (PY.index rfl rfl rfl (idx_spec hx8).1 (idx_spec hx8).2.1 Try.underlying35 Try.sizeOf22) ?_
                refine GH2.oneY 6 (by decide +kernel) rfl rfl rfl (by decide) (YT.own (α := (List Int)) rfl rfl rfl hx8 rfl Try.isAgg22 rfl rfl) ?_
                refine GH2.take 7 rfl (by decide +kernel) (by decide +kernel) (by decide +kernel) rfl rfl (by decide) (PY.len rfl rfl Try.underlying22) ?_
                refine GH2.take 8 rfl (by decide +kernel) (by decide +kernel) (by decide +kernel) rfl rfl (by decide) (PY.bin rfl rfl rfl) ?_
                refine GH2.take 9 rfl (by decide +kernel) (by decide +kernel) (by decide +kernel) rfl rfl (by decide) (PY.pickT rfl rfl) ?_
                refine GH2.take 10 rfl (by decide +kernel) (by decide +kernel) (by decide +kernel) rfl rfl (by decide) (PY.move rfl) ?_
                refine GH2.lit 44 rfl hg6 ?_
                refine GH2.passu 11 rfl (by decide +kernel) (by decide +kernel) (by decide +kernel) rfl rfl (by decide) ?_
                refine GH2.passu 12 rfl (by decide +kernel) (by decide +kernel) (by decide +kernel) rfl rfl (by decide) ?_
                refine GH2.passu 13 rfl (by decide +kernel) (by decide +kernel) (by decide +kernel) rfl rfl (by decide) ?_
                refine GH2.passu 14 rfl (by decide +kernel) (by decide +kernel) (by decide +kernel) rfl rfl (by decide) ?_
                refine GH2.passu 15 rfl (by decide +kernel) (by decide +kernel) (by decide +kernel) rfl rfl (by decide) ?_
                refine GH2.passu 16 rfl (by decide +kernel) (by decide +kernel) (by decide +kernel) rfl rfl (by decide) ?_
                refine GH2.passu 17 rfl (by decide +kernel) (by decide +kernel) (by decide +kernel) rfl rfl (by decide) ?_
                refine GH2.passu 18 rfl (by decide +kernel) (by decide +kernel) (by decide +kernel) rfl rfl (by decide) ?_
                refine GH2.passu 19 rfl (by decide +kernel) (by decide +kernel) (by decide +kernel) rfl rfl (by decide) ?_
                refine GH2.passu 20 rfl (by decide +kernel) (by decide +kernel) (by decide +kernel) rfl rfl (by decide) ?_
                refine GH2.passu 21 rfl (by decide +kernel) (by decide +kernel) (by decide +kernel) rfl rfl (by decide) ?_
                refine GH2.passu 22 rfl (by decide +kernel) (by decide +kernel) (by decide +kernel) rfl rfl (by decide) ?_
                refine GH2.take 23 rfl (by decide +kernel) (by decide +kernel) (by decide +kernel) rfl rfl (by decide) (PY.pickF rfl rfl) ?_
                refine GH2.one 24 (by decide +kernel) rfl rfl (fun d e => by cases e) (EF.storeN (cells' := [.val (.bool false)]) rfl rfl rfl rfl rfl rfl rfl rfl Try.sizeOf4 (Nat.le_of_ble_eq_true rfl) rfl rfl) ?_
                rintro _ rfl
                refine GH2.done (by decide +kernel) ?_
                cases H
                exact And.intro rfl ⟨⟨rfl, rfl, rfl, rfl, rfl, rfl, rfl, rfl, trivial⟩, ⟨rfl, rfl, rfl, rfl, rfl, rfl, trivial⟩, rfl⟩
              · refine GH2.oneY 3 (by decide +kernel) rfl rfl rfl (by decide) (YL.loadN rfl rfl rfl Try.isAgg35 rfl rfl) ?_
                refine GH2.take 5 rfl (by decide +kernel) (by decide +kernel) (by decide +kernel) rfl rfl (by decide) (PY.index rfl rfl rfl (idx_spec hx8).1 (idx_spec hx8).2.1 Try.underlying35 Try.sizeOf22) ?_
                refine GH2.oneY 6 (by decide +kernel) rfl rfl rfl (by decide) (YT.own (α := (List Int)) rfl rfl rfl hx8 rfl Try.isAgg22 rfl rfl) ?_
                refine GH2.take 7 rfl (by decide +kernel) (by decide +kernel) (by decide +kernel) rfl rfl (by decide) (PY.len rfl rfl Try.underlying22) ?_
                refine GH2.take 8 rfl (by decide +kernel) (by decide +kernel) (by decide +kernel) rfl rfl (by decide) (PY.bin rfl rfl rfl) ?_
                refine GH2.take 9 rfl (by decide +kernel) (by decide +kernel) (by decide +kernel) rfl rfl (by decide) (PY.pickT rfl rfl) ?_
                refine GH2.take 10 rfl (by decide +kernel) (by decide +kernel) (by decide +kernel) rfl rfl (by decide) (PY.move rfl) ?_
                refine GH2.lit 44 rfl hg6 ?_
                refine GH2.passu 11 rfl (by decide +kernel) (by decide +kernel) (by decide +kernel) rfl rfl (by decide) ?_
                refine GH2.passu 12 rfl (by decide +kernel) (by decide +kernel) (by decide +kernel) rfl rfl (by decide) ?_
                refine GH2.passu 13 rfl (by decide +kernel) (by decide +kernel) (by decide +kernel) rfl rfl (by decide) ?_
                refine GH2.passu 14 rfl (by decide +kernel) (by decide +kernel) (by decide +kernel) rfl rfl (by decide) ?_
                refine GH2.passu 15 rfl (by decide +kernel) (by decide +kernel) (by decide +kernel) rfl rfl (by decide) ?_
                refine GH2.passu 16 rfl (by decide +kernel) (by decide +kernel) (by decide +kernel) rfl rfl (by decide) ?_
                refine GH2.passu 17 rfl (by decide +kernel) (by decide +kernel) (by decide +kernel) rfl rfl (by decide) ?_
                refine GH2.passu 18 rfl (by decide +kernel) (by decide +kernel) (by decide +kernel) rfl rfl (by decide) ?_
                refine GH2.passu 19 rfl (by decide +kernel) (by decide +kernel) (by decide +kernel) rfl rfl (by decide) ?_
                refine GH2.passu 20 rfl (by decide +kernel) (by decide +kernel) (by decide +kernel) rfl rfl (by decide) ?_
                refine GH2.passu 21 rfl (by decide +kernel) (by decide +kernel) (by decide +kernel) rfl rfl (by decide) ?_
                refine GH2.passu 22 rfl (by decide +kernel) (by decide +kernel) (by decide +kernel) rfl rfl (by decide) ?_
                refine GH2.take 23 rfl (by decide +kernel) (by decide +kernel) (by decide +kernel) rfl rfl (by decide) (PY.pickF rfl rfl) ?_
                refine GH2.one 24 (by decide +kernel) rfl rfl (fun d e => by cases e) (EF.storeN (cells' := [.val (.bool false)]) rfl rfl rfl rfl rfl rfl rfl rfl Try.sizeOf4 (Nat.le_of_ble_eq_true rfl) rfl rfl) ?_
                rintro _ rfl
                refine GH2.done (by decide +kernel) ?_
                cases H
                exact And.intro rfl ⟨⟨rfl, rfl, rfl, rfl, rfl, rfl, rfl, rfl, trivial⟩, ⟨rfl, rfl, rfl, rfl, rfl, rfl, trivial⟩, rfl⟩
          · have H := condF hg5 H
            refine GW.draws [1001] mixed ?_
            change GH1 _ _ _ _ _ _ 25 _ _
            refine GH1.later ?_
            refine GH2.oneY 0 (by decide +kernel) rfl rfl rfl (by decide) (YL.loadN rfl rfl rfl Try.isAgg4 rfl rfl) ?_
            refine GH2.take 1 rfl (by decide +kernel) (by decide +kernel) (by decide +kernel) rfl rfl (by decide) (PY.move rfl) ?_
            refine GH2.lit 35 rfl hg5 ?_
            refine GH2.passu 2 rfl (by decide +kernel) (by decide +kernel) (by decide +kernel) rfl rfl (by decide) ?_
            refine GH2.passu 3 rfl (by decide +kernel) (by decide +kernel) (by decide +kernel) rfl rfl (by decide) ?_
            refine GH2.passu 4 rfl (by decide +kernel) (by decide +kernel) (by decide +kernel) rfl rfl (by decide) ?_
            refine GH2.passu 5 rfl (by decide +kernel) (by decide +kernel) (by decide +kernel) rfl rfl (by decide) ?_
            refine GH2.passu 6 rfl (by decide +kernel) (by decide +kernel) (by decide +kernel) rfl rfl (by decide) ?_
            refine GH2.passu 7 rfl (by decide +kernel) (by decide +kernel) (by decide +kernel) rfl rfl (by decide) ?_
            refine GH2.passu 8 rfl (by decide +kernel) (by decide +kernel) (by decide +kernel) rfl rfl (by decide) ?_
            refine GH2.take 9 rfl (by decide +kernel) (by decide +kernel) (by decide +kernel) rfl rfl (by decide) (PY.pickF rfl rfl) ?_
            refine GH2.take 10 rfl (by decide +kernel) (by decide +kernel) (by decide +kernel) rfl rfl (by decide) (PY.move rfl) ?_
            refine GH2.passu 11 rfl (by decide +kernel) (by decide +kernel) (by decide +kernel) rfl rfl (by decide) ?_
            refine GH2.passu 12 rfl (by decide +kernel) (by decide +kernel) (by decide +kernel) rfl rfl (by decide) ?_
            refine GH2.passu 13 rfl (by decide +kernel) (by decide +kernel) (by decide +kernel) rfl rfl (by decide) ?_
            refine GH2.passu 14 rfl (by decide +kernel) (by decide +kernel) (by decide +kernel) rfl rfl (by decide) ?_
            refine GH2.passu 15 rfl (by decide +kernel) (by decide +kernel) (by decide +kernel) rfl rfl (by decide) ?_
            refine GH2.passu 16 rfl (by decide +kernel) (by decide +kernel) (by decide +kernel) rfl rfl (by decide) ?_
            refine GH2.passu 17 rfl (by decide +kernel) (by decide +kernel) (by decide +kernel) rfl rfl (by decide) ?_
            refine GH2.passu 18 rfl (by decide +kernel) (by decide +kernel) (by decide +kernel) rfl rfl (by decide) ?_
            refine GH2.passu 19 rfl (by decide +kernel) (by decide +kernel) (by decide +kernel) rfl rfl (by decide) ?_
            refine GH2.passu 20 rfl (by decide +kernel) (by decide +kernel) (by decide +kernel) rfl rfl (by decide) ?_
            refine GH2.passu 21 rfl (by decide +kernel) (by decide +kernel) (by decide +kernel) rfl rfl (by decide) ?_
            refine GH2.passu 22 rfl (by decide +kernel) (by decide +kernel) (by decide +kernel) rfl rfl (by decide) ?_
            refine GH2.take 23 rfl (by decide +kernel) (by decide +kernel) (by decide +kernel) rfl rfl (by decide) (PY.pickF rfl rfl) ?_
            refine GH2.one 24 (by decide +kernel) rfl rfl (fun d e => by cases e) (EF.storeN (cells' := [.val (.bool false)]) rfl rfl rfl rfl rfl rfl rfl rfl Try.sizeOf4 (Nat.le_of_ble_eq_true rfl) rfl rfl) ?_
            rintro _ rfl
            refine GH2.done (by decide +kernel) ?_
            cases H
            exact And.intro rfl ⟨⟨rfl, rfl, rfl, rfl, rfl, rfl, rfl, rfl, trivial⟩, ⟨rfl, rfl, rfl, rfl, rfl, rfl, trivial⟩, rfl⟩
        · rintro _ s2 ⟨rfl, hs⟩
          change GW _ _ _ _ _ _
          refine GW.weak _ hs ?_
          refine GW.weak ⟨[(0, .osl 1000 (Enc.sz Int) 0 (List.length x4)), (1, .loc 1001 0), (2, .loc 1002 0), (3, .loc 1003 0), (4, .loc 1004 0), (7, .val (.int .i64 i3)), (30, .val (.int .i64 (List.length l0 : Int))), (31, .val (.int .i64 i3))], [(1000, ⟨3, true, false, true, Enc.sz Int, encs x4, none⟩), (1001, ⟨4, false, false, false, 0, [.val (.bool c11)], none⟩), (1002, ⟨4, false, false, false, 0, [.val (.bool c00)], none⟩), (1003, ⟨3, false, false, false, 0, [.val (.int .i64 c000)], none⟩), (1004, ⟨35, false, false, false, 0, [.osl 1005 (Enc.sz (List Int)) 0 (List.length l00)], none⟩), (1005, ⟨22, true, false, false, Enc.sz (List Int), encs l00, none⟩)], []⟩ ⟨⟨rfl, rfl, rfl, rfl, rfl, rfl, rfl, rfl, trivial⟩, ⟨rfl, rfl, rfl, rfl, rfl, rfl, trivial⟩, rfl⟩ ?_
          change GW _ _ _ _ _ _
          obtain ⟨x12, hx12, H⟩ := bind_some H
          refine GW.region ?_
          refine GL.py (PY.move rfl) rfl rfl ?_
          refine GL.py (PY.move rfl) rfl rfl ?_
          refine GL.py (PY.index rfl rfl rfl (idx_spec hx12).1 (idx_spec hx12).2.1 Try.underlying22 Try.sizeOf3) rfl rfl ?_
          refine GL.e0 (ET.set (α := Int) (x := (-1)) (W := [1000]) rfl rfl rfl rfl rfl rfl rfl rfl rfl (idx_spec hx12).1 (idx_spec hx12).2.1 Try.sizeOf3 rfl) rfl ?_
          refine GL.resl 0 rfl (show List.length x4 = List.length (List.set x4 (Int.toNat i3) (-1)) from List.length_set.symm) ?_
          refine GL.resl 58 rfl (show List.length x4 = List.length (List.set x4 (Int.toNat i3) (-1)) from List.length_set.symm) ?_
          refine GL.nil ?_
          change GW _ _ _ _ _ _
          refine GW.region ?_
          refine GL.py (PY.bin rfl rfl rfl) rfl rfl ?_
          refine GL.py (PY.move rfl) rfl rfl ?_
          refine GL.nil ?_
          cases H
          exact And.intro rfl ⟨⟨rfl, rfl, rfl, rfl, rfl, rfl, rfl, trivial⟩, ⟨rfl, rfl, rfl, rfl, rfl, rfl, trivial⟩, rfl⟩
      · have H := condF hc4 H
        refine GW.exit ?_
        cases H
        exact And.intro exit_ne (And.intro rfl ⟨⟨rfl, rfl, rfl, trivial⟩, ⟨rfl, rfl, rfl, rfl, rfl, rfl, trivial⟩, rfl⟩)
    · obtain ⟨rfl, hs⟩ := hx
      obtain ⟨l6, c7⟩ := e8
      change GW _ _ _ _ _ _
      refine GW.weak _ hs ?_
      refine GW.weak ⟨[(2, .loc 1002 0), (3, .loc 1003 0), (4, .loc 1004 0)], [(1000, ⟨3, true, false, true, Enc.sz Int, encs l6, none⟩), (1001, ⟨4, false, false, false, 0, [.val (.bool c7)], none⟩), (1002, ⟨4, false, false, false, 0, [.val (.bool c00)], none⟩), (1003, ⟨3, false, false, false, 0, [.val (.int .i64 c000)], none⟩), (1004, ⟨35, false, false, false, 0, [.osl 1005 (Enc.sz (List Int)) 0 (List.length l00)], none⟩), (1005, ⟨22, true, false, false, Enc.sz (List Int), encs l00, none⟩)], []⟩ ⟨⟨rfl, rfl, rfl, trivial⟩, ⟨rfl, rfl, rfl, rfl, rfl, rfl, trivial⟩, rfl⟩ ?_
      change GW _ _ _ _ _ _
      refine GW.seq ?_
      refine GW.region ?_
      refine GL.y (YL.loadN rfl rfl rfl Try.isAgg3 rfl rfl) rfl rfl ?_
      refine GL.py (PY.bin rfl rfl rfl) rfl rfl ?_
      refine GL.e0 (EF.storeN (W := [1003]) (cells' := [.val (.int .i64 (IntKind.i64.wrap (c000 + 1)))]) rfl rfl rfl rfl rfl rfl rfl rfl Try.sizeOf3 (Nat.le_of_ble_eq_true rfl) rfl rfl) rfl ?_
      refine GL.nil ?_
      change GW _ _ _ _ _ _
      refine GW.seq ?_
      refine GW.region ?_
      refine GL.y (YL.loadN rfl rfl rfl Try.isAgg3 rfl rfl) rfl rfl ?_
      refine GL.y (YL.loadN rfl rfl rfl Try.isAgg35 rfl rfl) rfl rfl ?_
      refine GL.py (PY.len rfl rfl Try.underlying35) rfl rfl ?_
      refine GL.py (PY.quo rfl rfl (by decide)) rfl rfl ?_
      refine GL.py (PY.bin rfl rfl rfl) rfl rfl ?_
      refine GL.e0 (EF.storeN (W := [1002]) (cells' := [.val (.bool (decide ((IntKind.i64.wrap (c000 + 1)) > (IntKind.i64.wrap (Int.tdiv (List.length l00 : Int) 2)))))]) rfl rfl rfl rfl rfl rfl rfl rfl Try.sizeOf4 (Nat.le_of_ble_eq_true rfl) rfl rfl) rfl ?_
      refine GL.nil ?_
      change GW _ _ _ _ _ _
      refine GW.seq ?_
      refine GW.region ?_
      refine GL.y (YL.loadN rfl rfl rfl Try.isAgg4 rfl rfl) rfl rfl ?_
      refine GL.py (PY.un rfl rfl) rfl rfl ?_
      refine GL.py (PY.assign rfl) rfl rfl ?_
      refine GL.nil ?_
      change GW _ _ _ _ _ _
      refine GW.ret ?_
      have H := Option.some.inj H
      subst H
      exact RetQ.mk (.inl rfl) [.val (.bool (!(decide ((IntKind.i64.wrap (c000 + 1)) > (IntKind.i64.wrap (Int.tdiv (List.length l00 : Int) 2))))))] _ [(1000, ⟨3, true, false, true, Enc.sz Int, encs l6, none⟩), (1001, ⟨4, false, false, false, 0, [.val (.bool c7)], none⟩), (1002, ⟨4, false, false, false, 0, [.val (.bool (decide ((IntKind.i64.wrap (c000 + 1)) > (IntKind.i64.wrap (Int.tdiv (List.length l00 : Int) 2)))))], none⟩), (1003, ⟨3, false, false, false, 0, [.val (.int .i64 (IntKind.i64.wrap (c000 + 1)))], none⟩), (1004, ⟨35, false, false, false, 0, [.osl 1005 (Enc.sz (List Int)) 0 (List.length l00)], none⟩), (1005, ⟨22, true, false, false, Enc.sz (List Int), encs l00, none⟩)] ⟨Res.tmp rfl, trivial⟩ ⟨rfl, rfl, rfl, rfl, rfl, rfl, trivial⟩ rfl ⟨rfl, rfl⟩

theorem points_walk_7_ok (fu : Nat) : ∀ (p0 : SPoints) (k0 : Int) (l0 : (List Int)) (c0 : Bool) (c00 : Bool) (c000 : Int) (l00 : (List (List Int))) (r : (Bool × (List Int) × Bool × Bool × Int)) (H : F.points_walk_7 fu p0 k0 l0 c0 c00 c000 l00 = some r), GM Try.prog 39 [.agg [.sl (List.length p0.Box) (encs p0.Box), .sl (List.length p0.Rows) (encs p0.Rows)], .osl 1000 (Enc.sz Int) 0 (List.length l0), .val (.int .i64 k0), .clo 32 [.loc 1001 0, .loc 1002 0, .loc 1003 0, .loc 1004 0]] [(1000, ⟨3, true, false, false, Enc.sz Int, encs l0, none⟩), (1001, ⟨4, false, false, false, 0, [.val (.bool c0)], none⟩), (1002, ⟨4, false, false, false, 0, [.val (.bool c00)], none⟩), (1003, ⟨3, false, false, false, 0, [.val (.int .i64 c000)], none⟩), (1004, ⟨35, false, false, false, 0, [.osl 1005 (Enc.sz (List Int)) 0 (List.length l00)], none⟩), (1005, ⟨22, true, false, false, Enc.sz (List Int), encs l00, none⟩)] (fun g st => g = .val (.bool r.1) ∧ st = [(1000, ⟨3, true, false, true, Enc.sz Int, encs r.2.1, none⟩), (1001, ⟨4, false, false, false, 0, [.val (.bool r.2.2.1)], none⟩), (1002, ⟨4, false, false, false, 0, [.val (.bool r.2.2.2.1)], none⟩), (1003, ⟨3, false, false, false, 0, [.val (.int .i64 r.2.2.2.2)], none⟩), (1004, ⟨35, false, false, false, 0, [.osl 1005 (Enc.sz (List Int)) 0 (List.length l00)], none⟩), (1005, ⟨22, true, false, false, Enc.sz (List Int), encs l00, none⟩)]) := by
  induction fu with
  | zero => intro p0 k0 l0 c0 c00 c000 l00 r H; cases H
  | succ fu ih =>
    intro p0 k0 l0 c0 c00 c000 l00 r H
    replace H : F.points_walk_7_body fu (F.points_walk_7 fu) p0 k0 l0 c0 c00 c000 l00 = some r := H
    unfold F.points_walk_7_body at H
    refine GM.of (N := 48) Try.func39 rfl rfl rfl (fun cx hro => ?_)
    change GW _ _ _ _ _ _
    refine GW.refresh (α := Int) (l := l0) 1000 rfl rfl rfl ?_
    refine GW.seq ?_
    refine GW.region ?_
    refine GL.e1 (W := []) (EF.box 0 rfl rfl rfl) rfl rfl ?_
    refine GL.py (PY.assign rfl) rfl rfl ?_
    refine GL.nil ?_
    change GW _ _ _ _ _ _
    refine GW.seq ?_
    refine GW.seq ?_
    obtain ⟨r1, hr1, H⟩ := bind_some H
    refine GW.region ?_
    refine GL.y (YL.loadAgg rfl rfl rfl Try.isAgg25 Try.sizeOf25 (Nat.le_of_ble_eq_true rfl) rfl) rfl rfl ?_
    refine GL.py (PY.move rfl) rfl rfl ?_
    refine GL.py (PY.move rfl) rfl rfl ?_
    refine GL.e (W := []) (EF.call 4 Try.call46 rfl (mapO_cons rfl (mapO_cons (view_vec (α := Int) (l := l0) rfl rfl rfl) (mapO_cons rfl rfl))) (points_hopeless_ok fu p0 l0 k0 r1 hr1) (by rintro _ _ ⟨rfl, rfl⟩; rfl)) rfl rfl ?_
    rintro _ ⟨_, _, ⟨rfl, rfl⟩, rfl⟩
    refine GL.nil ?_
    change GW _ _ _ _ _ _
    refine GW.cond rfl (fun hc1 => ?_) (fun hc1 => ?_)
    · have H := condT hc1 H
      refine GW.seq ?_
      refine GW.region ?_
      refine GL.py (PY.assign rfl) rfl rfl ?_
      refine GL.nil ?_
      change GW _ _ _ _ _ _
      refine GW.ret ?_
      have H := Option.some.inj H
      subst H
      exact RetQ.mk (.inl rfl) [.val (.bool true)] _ [(1000, ⟨3, true, false, true, Enc.sz Int, encs l0, none⟩), (1001, ⟨4, false, false, false, 0, [.val (.bool c0)], none⟩), (1002, ⟨4, false, false, false, 0, [.val (.bool c00)], none⟩), (1003, ⟨3, false, false, false, 0, [.val (.int .i64 c000)], none⟩), (1004, ⟨35, false, false, false, 0, [.osl 1005 (Enc.sz (List Int)) 0 (List.length l00)], none⟩), (1005, ⟨22, true, false, false, Enc.sz (List Int), encs l00, none⟩)] ⟨Res.tmp rfl, trivial⟩ ⟨rfl, rfl, rfl, rfl, rfl, rfl, trivial⟩ rfl ⟨rfl, rfl⟩
    · have H := condF hc1 H
      refine GW.skip ?_
      change GW _ _ _ _ _ _
      refine GW.seq ?_
      refine GW.seq ?_
      refine GW.region ?_
      refine GL.py (PY.move rfl) rfl rfl ?_
      refine GL.py (PY.field rfl rfl Try.underlying25 rfl Try.sizeOf22 (by decide)) rfl rfl ?_
      refine GL.y (YL.loadN rfl rfl rfl Try.isAgg22 rfl rfl) rfl rfl ?_
      refine GL.py (PY.len rfl rfl Try.underlying22) rfl rfl ?_
      refine GL.py (PY.bin rfl rfl rfl) rfl rfl ?_
      refine GL.nil ?_
      change GW _ _ _ _ _ _
      refine GW.cond rfl (fun hc2 => ?_) (fun hc2 => ?_)
      · have H := condT hc2 H
        refine GW.seq ?_
        obtain ⟨r3, hr3, H⟩ := bind_some H
        obtain ⟨r9, hr9, H⟩ := bind_some H
        obtain ⟨o4, o5, o6, o7, o8⟩ := r9
        obtain ⟨_, hl3, H⟩ := bind_some H
        replace hl3 := chk_spec hl3
        refine GW.region ?_
        refine GL.py (PY.move rfl) rfl rfl ?_
        refine GL.py (PY.move rfl) rfl rfl ?_
        refine GL.e1 (EF.lend (s1 := ⟨[(8, .val (.bool false)), (18, .clo 32 [.loc 1001 0, .loc 1002 0, .loc 1003 0, .loc 1004 0]), (20, .osl 203 (Enc.sz Int) 0 (List.length r3))], [(203, ⟨3, true, true, true, Enc.sz Int, encs r3, none⟩), (1000, ⟨3, true, false, true, Enc.sz Int, encs l0, none⟩), (1001, ⟨4, false, false, false, 0, [.val (.bool c0)], none⟩), (1002, ⟨4, false, false, false, 0, [.val (.bool c00)], none⟩), (1003, ⟨3, false, false, false, 0, [.val (.int .i64 c000)], none⟩), (1004, ⟨35, false, false, false, 0, [.osl 1005 (Enc.sz (List Int)) 0 (List.length l00)], none⟩), (1005, ⟨22, true, false, false, Enc.sz (List Int), encs l00, none⟩)], []⟩) (W := []) [] true [203] Try.call26 rfl (lend_cons (view_vec (α := Int) (l := l0) rfl rfl rfl) rfl) rfl rfl (slices_Clone_ok fu l0 r3 hr3) (by rintro _ _ ⟨rfl, rfl⟩; exact ⟨_, _, rfl, rfl, ⟨⟨rfl, rfl, rfl, trivial⟩, ⟨rfl, rfl, rfl, rfl, rfl, rfl, rfl, trivial⟩, rfl⟩⟩) rfl) rfl rfl ?_
        refine GL.e1 (EF.lendV (s1 := ⟨[(8, .val (.bool false)), (21, .val (.bool o4))], [(1000, ⟨3, true, false, true, Enc.sz Int, encs l0, none⟩), (1001, ⟨4, false, false, false, 0, [.val (.bool o6)], none⟩), (1002, ⟨4, false, false, false, 0, [.val (.bool o7)], none⟩), (1003, ⟨3, false, false, false, 0, [.val (.int .i64 o8)], none⟩), (1004, ⟨35, false, false, false, 0, [.osl 1005 (Enc.sz (List Int)) 0 (List.length l00)], none⟩), (1005, ⟨22, true, false, false, Enc.sz (List Int), encs l00, none⟩)], []⟩) (W := [203, 1001, 1002, 1003, 1004, 1005]) [203, 1001, 1002, 1003, 1004, 1005] false [203, 1001, 1002, 1003, 1004, 1005] Try.call32 rfl rfl rfl rfl rfl (plain_Points_1_3_ok fu r3 c0 c00 c000 l00 (o4, o5, o6, o7, o8) hr9) (by rintro _ _ ⟨rfl, rfl⟩; exact ⟨_, _, rfl, rfl, ⟨⟨rfl, rfl, trivial⟩, ⟨rfl, rfl, rfl, rfl, rfl, rfl, trivial⟩, rfl⟩⟩) rfl) rfl rfl ?_
        refine GL.py (PY.assign rfl) rfl rfl ?_
        refine GL.nil ?_
        change GW _ _ _ _ _ _
        refine GW.ret ?_
        have H := Option.some.inj H
        subst H
        exact RetQ.mk (.inl rfl) [.val (.bool o4)] _ [(1000, ⟨3, true, false, true, Enc.sz Int, encs l0, none⟩), (1001, ⟨4, false, false, false, 0, [.val (.bool o6)], none⟩), (1002, ⟨4, false, false, false, 0, [.val (.bool o7)], none⟩), (1003, ⟨3, false, false, false, 0, [.val (.int .i64 o8)], none⟩), (1004, ⟨35, false, false, false, 0, [.osl 1005 (Enc.sz (List Int)) 0 (List.length l00)], none⟩), (1005, ⟨22, true, false, false, Enc.sz (List Int), encs l00, none⟩)] ⟨Res.tmp rfl, trivial⟩ ⟨rfl, rfl, rfl, rfl, rfl, rfl, trivial⟩ rfl ⟨rfl, rfl⟩
      · have H := condF hc2 H
        refine GW.skip ?_
        change GW _ _ _ _ _ _
        refine GW.seq ?_
        refine GW.seq ?_
        obtain ⟨x10, hx10, H⟩ := bind_some H
        refine GW.region ?_
        refine GL.py (PY.move rfl) rfl rfl ?_
        refine GL.py (PY.move rfl) rfl rfl ?_
        refine GL.py (PY.index rfl rfl rfl (idx_spec hx10).1 (idx_spec hx10).2.1 Try.underlying22 Try.sizeOf3) rfl rfl ?_
        refine GL.e0 (ET.set (α := Int) (x := 0) (W := [1000]) rfl rfl rfl rfl rfl rfl rfl rfl rfl (idx_spec hx10).1 (idx_spec hx10).2.1 Try.sizeOf3 rfl) rfl ?_
        refine GL.resl 1 rfl (show List.length l0 = List.length (List.set l0 (Int.toNat k0) 0) from List.length_set.symm) ?_
        refine GL.resl 22 rfl (show List.length l0 = List.length (List.set l0 (Int.toNat k0) 0) from List.length_set.symm) ?_
        refine GL.nil ?_
        change GW _ _ _ _ _ _
        refine GW.block ?_
        obtain ⟨e8, he8, Hb, Hr⟩ := bindE_some H
        refine GW.weak ((fun (q : (List Int) × Bool × Bool × Int) => (⟨[(1, .osl 1000 (Enc.sz Int) 0 (List.length q.1)), (2, .val (.int .i64 k0)), (3, .clo 32 [.loc 1001 0, .loc 1002 0, .loc 1003 0, .loc 1004 0]), (4, .loc 0 0)], [(0, ⟨25, false, true, false, 0, [.sl (List.length p0.Box) (encs p0.Box), .sl (List.length p0.Rows) (encs p0.Rows)], none⟩), (1000, ⟨3, true, false, true, Enc.sz Int, encs q.1, none⟩), (1001, ⟨4, false, false, false, 0, [.val (.bool q.2.1)], none⟩), (1002, ⟨4, false, false, false, 0, [.val (.bool q.2.2.1)], none⟩), (1003, ⟨3, false, false, false, 0, [.val (.int .i64 q.2.2.2)], none⟩), (1004, ⟨35, false, false, false, 0, [.osl 1005 (Enc.sz (List Int)) 0 (List.length l00)], none⟩), (1005, ⟨22, true, false, false, Enc.sz (List Int), encs l00, none⟩)], []⟩ : St)) (List.set l0 (Int.toNat k0) 0, c0, c00, c000)) ⟨⟨rfl, rfl, rfl, rfl, trivial⟩, ⟨rfl, rfl, rfl, rfl, rfl, rfl, rfl, trivial⟩, rfl⟩ ?_
        refine GW.loopF (fun (q : (List Int) × Bool × Bool × Int) => (⟨[(1, .osl 1000 (Enc.sz Int) 0 (List.length q.1)), (2, .val (.int .i64 k0)), (3, .clo 32 [.loc 1001 0, .loc 1002 0, .loc 1003 0, .loc 1004 0]), (4, .loc 0 0)], [(0, ⟨25, false, true, false, 0, [.sl (List.length p0.Box) (encs p0.Box), .sl (List.length p0.Rows) (encs p0.Rows)], none⟩), (1000, ⟨3, true, false, true, Enc.sz Int, encs q.1, none⟩), (1001, ⟨4, false, false, false, 0, [.val (.bool q.2.1)], none⟩), (1002, ⟨4, false, false, false, 0, [.val (.bool q.2.2.1)], none⟩), (1003, ⟨3, false, false, false, 0, [.val (.int .i64 q.2.2.2)], none⟩), (1004, ⟨35, false, false, false, 0, [.osl 1005 (Enc.sz (List Int)) 0 (List.length l00)], none⟩), (1005, ⟨22, true, false, false, Enc.sz (List Int), encs l00, none⟩)], []⟩ : St)) (QJ (.exit 0) (fun (q : (List Int) × Bool × Bool × Int) => (⟨[], [(1000, ⟨3, true, false, true, Enc.sz Int, encs q.1, none⟩), (1001, ⟨4, false, false, false, 0, [.val (.bool q.2.1)], none⟩), (1002, ⟨4, false, false, false, 0, [.val (.bool q.2.2.1)], none⟩), (1003, ⟨3, false, false, false, 0, [.val (.int .i64 q.2.2.2)], none⟩), (1004, ⟨35, false, false, false, 0, [.osl 1005 (Enc.sz (List Int)) 0 (List.length l00)], none⟩), (1005, ⟨22, true, false, false, Enc.sz (List Int), encs l00, none⟩)], []⟩ : St)) (fun r2 _ s2 => RetQ Try.prog Try.f39 (fun g st => g = .val (.bool r2.1) ∧ st = [(1000, ⟨3, true, false, true, Enc.sz Int, encs r2.2.1, none⟩), (1001, ⟨4, false, false, false, 0, [.val (.bool r2.2.2.1)], none⟩), (1002, ⟨4, false, false, false, 0, [.val (.bool r2.2.2.2.1)], none⟩), (1003, ⟨3, false, false, false, 0, [.val (.int .i64 r2.2.2.2.2)], none⟩), (1004, ⟨35, false, false, false, 0, [.osl 1005 (Enc.sz (List Int)) 0 (List.length l00)], none⟩), (1005, ⟨22, true, false, false, Enc.sz (List Int), encs l00, none⟩)]) .ret s2)) he8 (fun x o hb => ?_) (fun ex s2 _ hx => ?_)
        · obtain ⟨x11, c12, c13, c14⟩ := x
          have H := hb
          unfold F.points_walk_7_l1 at H
          try dsimp only at H
          refine GW.weak ⟨[(1, .osl 1000 (Enc.sz Int) 0 (List.length x11)), (2, .val (.int .i64 k0)), (3, .clo 32 [.loc 1001 0, .loc 1002 0, .loc 1003 0, .loc 1004 0]), (4, .loc 0 0)], [(0, ⟨25, false, true, false, 0, [.sl (List.length p0.Box) (encs p0.Box), .sl (List.length p0.Rows) (encs p0.Rows)], none⟩), (1000, ⟨3, true, false, true, Enc.sz Int, encs x11, none⟩), (1001, ⟨4, false, false, false, 0, [.val (.bool c12)], none⟩), (1002, ⟨4, false, false, false, 0, [.val (.bool c13)], none⟩), (1003, ⟨3, false, false, false, 0, [.val (.int .i64 c14)], none⟩), (1004, ⟨35, false, false, false, 0, [.osl 1005 (Enc.sz (List Int)) 0 (List.length l00)], none⟩), (1005, ⟨22, true, false, false, Enc.sz (List Int), encs l00, none⟩)], []⟩ ⟨⟨rfl, rfl, rfl, rfl, trivial⟩, ⟨rfl, rfl, rfl, rfl, rfl, rfl, rfl, trivial⟩, rfl⟩ ?_
          refine GW.seq ?_
          refine GW.seq ?_
          obtain ⟨x19, hx19, H⟩ := bind_some H
          obtain ⟨x20, hx20, H⟩ := bind_some H
          refine GW.draws [] mixed ?_
          change GH1 _ _ _ _ _ _ 10 _ _
          refine GH1.take 0 rfl (by decide +kernel) (by decide +kernel) (by decide +kernel) rfl rfl (by decide) ((PY.move rfl).yield _) ?_
          refine GH1.take 1 rfl (by decide +kernel) (by decide +kernel) (by decide +kernel) rfl rfl (by decide) ((PY.move rfl).yield _) ?_
          refine GH1.take 2 rfl (by decide +kernel) (by decide +kernel) (by decide +kernel) rfl rfl (by decide) ((PY.index rfl rfl rfl (idx_spec hx19).1 (idx_spec hx19).2.1 Try.underlying22 Try.sizeOf3).yield _) ?_
          refine GH1.take 3 rfl (by decide +kernel) (by decide +kernel) (by decide +kernel) rfl rfl (by decide) (YT.own (α := Int) rfl rfl rfl hx19 rfl Try.isAgg3 rfl rfl) ?_
          refine GH1.take 4 rfl (by decide +kernel) (by decide +kernel) (by decide +kernel) rfl rfl (by decide) ((PY.field rfl rfl Try.underlying25 rfl Try.sizeOf22 (by decide)).yield _) ?_
          refine GH1.take 5 rfl (by decide +kernel) (by decide +kernel) (by decide +kernel) rfl rfl (by decide) (YL.loadN rfl rfl rfl Try.isAgg22 rfl rfl) ?_
          refine GH1.take 6 rfl (by decide +kernel) (by decide +kernel) (by decide +kernel) rfl rfl (by decide) ((PY.move rfl).yield _) ?_
          refine GH1.take 7 rfl (by decide +kernel) (by decide +kernel) (by decide +kernel) rfl rfl (by decide) ((PY.index rfl rfl rfl (idx_spec hx20).1 (idx_spec hx20).2.1 Try.underlying22 Try.sizeOf3).yield _) ?_
          refine GH1.take 8 rfl (by decide +kernel) (by decide +kernel) (by decide +kernel) rfl rfl (by decide) (YT.elt (α := Int) rfl hx20 rfl Try.isAgg3) ?_
          refine GH1.take 9 rfl (by decide +kernel) (by decide +kernel) (by decide +kernel) rfl rfl (by decide) ((PY.bin rfl rfl rfl).yield _) ?_
          refine GH1.done (by decide +kernel) ?_
          change GW _ _ _ _ _ _
          refine GW.cond rfl (fun hc4 => ?_) (fun hc4 => ?_)
          · have H := condT hc4 H
            refine GW.skip ?_
            change GW _ _ _ _ _ _
            refine GW.seq ?_
            refine GW.block ?_
            refine GW.seq ?_
            obtain ⟨r26, hr26, H⟩ := bind_some H
            obtain ⟨o21, o22, o23, o24, o25⟩ := r26
            obtain ⟨_, hl5, H⟩ := bind_some H
            replace hl5 := chk_spec hl5
            refine GW.region ?_
            refine GL.y (YL.loadAgg rfl rfl rfl Try.isAgg25 Try.sizeOf25 (Nat.le_of_ble_eq_true rfl) rfl) rfl rfl ?_
            refine GL.py (PY.move rfl) rfl rfl ?_
            refine GL.py (PY.move rfl) rfl rfl ?_
            refine GL.py (PY.bin rfl rfl rfl) rfl rfl ?_
            refine GL.py (PY.move rfl) rfl rfl ?_
            refine GL.e1 (EF.lend (s1 := ⟨[(1, .osl 1000 (Enc.sz Int) 0 (List.length x11)), (2, .val (.int .i64 k0)), (3, .clo 32 [.loc 1001 0, .loc 1002 0, .loc 1003 0, .loc 1004 0]), (4, .loc 0 0), (46, .val (.bool o21))], [(0, ⟨25, false, true, false, 0, [.sl (List.length p0.Box) (encs p0.Box), .sl (List.length p0.Rows) (encs p0.Rows)], none⟩), (1000, ⟨3, true, false, true, Enc.sz Int, encs o22, none⟩), (1001, ⟨4, false, false, false, 0, [.val (.bool o23)], none⟩), (1002, ⟨4, false, false, false, 0, [.val (.bool o24)], none⟩), (1003, ⟨3, false, false, false, 0, [.val (.int .i64 o25)], none⟩), (1004, ⟨35, false, false, false, 0, [.osl 1005 (Enc.sz (List Int)) 0 (List.length l00)], none⟩), (1005, ⟨22, true, false, false, Enc.sz (List Int), encs l00, none⟩)], []⟩) (W := [1000, 1001, 1002, 1003, 1004, 1005]) [1000, 1001, 1002, 1003, 1004, 1005] false [1000, 1001, 1002, 1003, 1004, 1005] Try.call39 rfl rfl rfl rfl (ih p0 (IntKind.i64.wrap (k0 + 1)) x11 c12 c13 c14 l00 (o21, o22, o23, o24, o25) hr26) (by rintro _ _ ⟨rfl, rfl⟩; exact ⟨_, _, rfl, rfl, ⟨⟨rfl, rfl, rfl, rfl, rfl, trivial⟩, ⟨rfl, rfl, rfl, rfl, rfl, rfl, rfl, trivial⟩, rfl⟩⟩) rfl) rfl rfl ?_
            refine GL.resl 1 rfl hl5 ?_
            refine GL.py (PY.un rfl rfl) rfl rfl ?_
            refine GL.nil ?_
            change GW _ _ _ _ _ _
            refine GW.cond rfl (fun hc7 => ?_) (fun hc7 => ?_)
            · have H := condT hc7 H
              refine GW.seq ?_
              refine GW.region ?_
              refine GL.py (PY.assign rfl) rfl rfl ?_
              refine GL.nil ?_
              change GW _ _ _ _ _ _
              refine GW.ret ?_
              cases H
              exact And.intro ret_ne (And.intro rfl (RetQ.mk (.inl rfl) [.val (.bool false)] _ [(1000, ⟨3, true, false, true, Enc.sz Int, encs o22, none⟩), (1001, ⟨4, false, false, false, 0, [.val (.bool o23)], none⟩), (1002, ⟨4, false, false, false, 0, [.val (.bool o24)], none⟩), (1003, ⟨3, false, false, false, 0, [.val (.int .i64 o25)], none⟩), (1004, ⟨35, false, false, false, 0, [.osl 1005 (Enc.sz (List Int)) 0 (List.length l00)], none⟩), (1005, ⟨22, true, false, false, Enc.sz (List Int), encs l00, none⟩)] ⟨Res.tmp rfl, trivial⟩ ⟨rfl, rfl, rfl, rfl, rfl, rfl, trivial⟩ rfl ⟨rfl, rfl⟩))
            · have H := condF hc7 H
              refine GW.skip ?_
              change GW _ _ _ _ _ _
              obtain ⟨x27, hx27, H⟩ := bind_some H
              refine GW.region ?_
              refine GL.py (PY.move rfl) rfl rfl ?_
              refine GL.py (PY.move rfl) rfl rfl ?_
              refine GL.py (PY.index rfl rfl rfl (idx_spec hx27).1 (idx_spec hx27).2.1 Try.underlying22 Try.sizeOf3) rfl rfl ?_
              refine GL.y (YT.own (α := Int) rfl rfl rfl hx27 rfl Try.isAgg3 rfl rfl) rfl rfl ?_
              refine GL.py (PY.bin rfl rfl rfl) rfl rfl ?_
              refine GL.py (PY.index rfl rfl rfl (idx_spec hx27).1 (idx_spec hx27).2.1 Try.underlying22 Try.sizeOf3) rfl rfl ?_
              refine GL.e0 (ET.set (α := Int) (x := IntKind.i64.wrap (x27 + 1)) (W := [1000]) rfl rfl rfl rfl rfl rfl rfl rfl rfl (idx_spec hx27).1 (idx_spec hx27).2.1 Try.sizeOf3 rfl) rfl ?_
              refine GL.resl 1 rfl (show List.length o22 = List.length (List.set o22 (Int.toNat k0) (IntKind.i64.wrap (x27 + 1))) from List.length_set.symm) ?_
              refine GL.resl 35 rfl (show List.length o22 = List.length (List.set o22 (Int.toNat k0) (IntKind.i64.wrap (x27 + 1))) from List.length_set.symm) ?_
              refine GL.nil ?_
              cases H
              exact And.intro rfl ⟨⟨rfl, rfl, rfl, rfl, trivial⟩, ⟨rfl, rfl, rfl, rfl, rfl, rfl, rfl, trivial⟩, rfl⟩
          · have H := condF hc4 H
            refine GW.exit ?_
            cases H
            exact And.intro exit_ne (And.intro rfl ⟨trivial, ⟨rfl, rfl, rfl, rfl, rfl, rfl, trivial⟩, rfl⟩)
        · cases e8 with
          | ret r2 =>
            obtain ⟨rfl, hx⟩ := hx
            have H := Hr r2 rfl
            subst H
            exact hx
          | brk b2 =>
            obtain ⟨rfl, hs⟩ := hx
            have H := Hb b2 rfl
            obtain ⟨l15, c16, c17, c18⟩ := b2
            change GW _ _ _ _ _ _
            refine GW.weak _ hs ?_
            refine GW.weak ⟨[], [(1000, ⟨3, true, false, true, Enc.sz Int, encs l15, none⟩), (1001, ⟨4, false, false, false, 0, [.val (.bool c16)], none⟩), (1002, ⟨4, false, false, false, 0, [.val (.bool c17)], none⟩), (1003, ⟨3, false, false, false, 0, [.val (.int .i64 c18)], none⟩), (1004, ⟨35, false, false, false, 0, [.osl 1005 (Enc.sz (List Int)) 0 (List.length l00)], none⟩), (1005, ⟨22, true, false, false, Enc.sz (List Int), encs l00, none⟩)], []⟩ ⟨trivial, ⟨rfl, rfl, rfl, rfl, rfl, rfl, trivial⟩, rfl⟩ ?_
            change GW _ _ _ _ _ _
            refine GW.seq ?_
            refine GW.region ?_
            refine GL.py (PY.assign rfl) rfl rfl ?_
            refine GL.nil ?_
            change GW _ _ _ _ _ _
            refine GW.ret ?_
            have H := Option.some.inj H
            subst H
            exact RetQ.mk (.inl rfl) [.val (.bool true)] _ [(1000, ⟨3, true, false, true, Enc.sz Int, encs l15, none⟩), (1001, ⟨4, false, false, false, 0, [.val (.bool c16)], none⟩), (1002, ⟨4, false, false, false, 0, [.val (.bool c17)], none⟩), (1003, ⟨3, false, false, false, 0, [.val (.int .i64 c18)], none⟩), (1004, ⟨35, false, false, false, 0, [.osl 1005 (Enc.sz (List Int)) 0 (List.length l00)], none⟩), (1005, ⟨22, true, false, false, Enc.sz (List Int), encs l00, none⟩)] ⟨Res.tmp rfl, trivial⟩ ⟨rfl, rfl, rfl, rfl, rfl, rfl, trivial⟩ rfl ⟨rfl, rfl⟩

theorem points_All_1_6_ok (fu : Nat) (a0 : SPoints) (c0 : Bool) (c00 : Bool) (c000 : Int) (l0 : (List (List Int))) (r : (Bool × Bool × Int)) (H : F.points_All_1_6 fu a0 c0 c00 c000 l0 = some r) : GM Try.prog 38 [.clo 32 [.loc 1000 0, .loc 1001 0, .loc 1002 0, .loc 1003 0], .ptr [.sl (List.length a0.Box) (encs a0.Box), .sl (List.length a0.Rows) (encs a0.Rows)]] [(1000, ⟨4, false, false, false, 0, [.val (.bool c0)], none⟩), (1001, ⟨4, false, false, false, 0, [.val (.bool c00)], none⟩), (1002, ⟨3, false, false, false, 0, [.val (.int .i64 c000)], none⟩), (1003, ⟨35, false, false, false, 0, [.osl 1004 (Enc.sz (List Int)) 0 (List.length l0)], none⟩), (1004, ⟨22, true, false, false, Enc.sz (List Int), encs l0, none⟩)] (fun g st => g = .tup [] ∧ st = [(1000, ⟨4, false, false, false, 0, [.val (.bool r.1)], none⟩), (1001, ⟨4, false, false, false, 0, [.val (.bool r.2.1)], none⟩), (1002, ⟨3, false, false, false, 0, [.val (.int .i64 r.2.2)], none⟩), (1003, ⟨35, false, false, false, 0, [.osl 1004 (Enc.sz (List Int)) 0 (List.length l0)], none⟩), (1004, ⟨22, true, false, false, Enc.sz (List Int), encs l0, none⟩)]) := by
  unfold F.points_All_1_6 at H
  refine GM.of (N := 13) Try.func38 rfl rfl rfl (fun cx hro => ?_)
  change GW _ _ _ _ _ _
  refine GW.seq ?_
  obtain ⟨r1, hr1, H⟩ := bind_some H
  refine GW.region ?_
  refine GL.y (YL.ptrAgg rfl (Nat.le_of_ble_eq_true rfl) Try.isAgg25 Try.sizeOf25) rfl rfl ?_
  refine GL.e (W := []) (EF.call 4 Try.call17 rfl (mapO_cons rfl rfl) (points_Wrong_ok fu a0 r1 hr1) (by rintro _ _ ⟨rfl, rfl⟩; rfl)) rfl rfl ?_
  rintro _ ⟨_, _, ⟨rfl, rfl⟩, rfl⟩
  refine GL.py (PY.bin rfl rfl rfl) rfl rfl ?_
  refine GL.nil ?_
  change GW _ _ _ _ _ _
  refine GW.cond rfl (fun hc1 => ?_) (fun hc1 => ?_)
  · have H := condT hc1 H
    obtain ⟨_, hm2, H⟩ := bind_some H
    replace hm2 := chk_spec hm2
    obtain ⟨r8, hr8, H⟩ := bind_some H
    obtain ⟨o3, o4, o5, o6, o7⟩ := r8
    obtain ⟨_, hl3, H⟩ := bind_some H
    replace hl3 := chk_spec hl3
    refine GW.draws [4, 1000, 1001, 1002, 1003, 1004] mixed ?_
    change GH1 _ _ _ _ _ _ 7 _ _
    refine GH1.take 0 rfl (by decide +kernel) (by decide +kernel) (by decide +kernel) rfl rfl (by decide) (YL.ptrAgg rfl (Nat.le_of_ble_eq_true rfl) Try.isAgg25 Try.sizeOf25) ?_
    refine GH1.take 1 rfl (by decide +kernel) (by decide +kernel) (by decide +kernel) rfl rfl (by decide) ((PY.field rfl rfl Try.underlying25 rfl Try.sizeOf22 (by decide)).yield _) ?_
    refine GH1.take 2 rfl (by decide +kernel) (by decide +kernel) (by decide +kernel) rfl rfl (by decide) (YL.ptr rfl rfl Try.isAgg22) ?_
    refine GH1.take 3 rfl (by decide +kernel) (by decide +kernel) (by decide +kernel) rfl rfl (by decide) ((PY.len rfl rfl Try.underlying22).yield _) ?_
    refine GH1.take 5 rfl (by decide +kernel) (by decide +kernel) (by decide +kernel) rfl rfl (by decide) ((PY.move rfl).yield _) ?_
    refine GH1.later ?_
    refine GH2.one 4 (by decide +kernel) rfl rfl (fun d e => by cases e; decide) (ET.make (α := Int) (x := (0 : Int)) 4 rfl rfl Try.underlying22 info3 rfl rfl hm2.1 hm2.2.1 hm2.2.2 rfl) ?_
    rintro _ rfl
    refine GH2.one 6 (by decide +kernel) rfl rfl (fun d e => by cases e; decide) (EF.lend (s1 := ⟨[(0, .clo 32 [.loc 1000 0, .loc 1001 0, .loc 1002 0, .loc 1003 0]), (1, .ptr [.sl (List.length a0.Box) (encs a0.Box), .sl (List.length a0.Rows) (encs a0.Rows)]), (3, .agg [.sl (List.length a0.Box) (encs a0.Box), .sl (List.length a0.Rows) (encs a0.Rows)]), (4, .val (.int .i64 r1)), (5, .val (.bool (r1 == 0))), (6, .agg [.sl (List.length a0.Box) (encs a0.Box), .sl (List.length a0.Rows) (encs a0.Rows)]), (7, .ptr [.sl (List.length a0.Box) (encs a0.Box), .sl (List.length a0.Rows) (encs a0.Rows)]), (8, .sl (List.length a0.Box) (encs a0.Box)), (9, .val (.int .i64 (List.length a0.Box : Int))), (10, .osl 4 (Enc.sz Int) 0 (List.length (List.replicate (Int.toNat (List.length a0.Box : Int)) (0 : Int)))), (11, .clo 32 [.loc 1000 0, .loc 1001 0, .loc 1002 0, .loc 1003 0]), (12, .val (.bool o3))], [(4, ⟨3, true, true, true, Enc.sz Int, encs o4, none⟩), (1000, ⟨4, false, false, false, 0, [.val (.bool o5)], none⟩), (1001, ⟨4, false, false, false, 0, [.val (.bool o6)], none⟩), (1002, ⟨3, false, false, false, 0, [.val (.int .i64 o7)], none⟩), (1003, ⟨35, false, false, false, 0, [.osl 1004 (Enc.sz (List Int)) 0 (List.length l0)], none⟩), (1004, ⟨22, true, false, false, Enc.sz (List Int), encs l0, none⟩)], []⟩) [4, 1000, 1001, 1002, 1003, 1004] false [4, 1000, 1001, 1002, 1003, 1004] Try.call39 rfl rfl rfl rfl (points_walk_7_ok fu a0 0 (List.replicate (Int.toNat (List.length a0.Box : Int)) (0 : Int)) c0 c00 c000 l0 (o3, o4, o5, o6, o7) hr8) (by rintro _ _ ⟨rfl, rfl⟩; exact ⟨_, _, rfl, rfl, ⟨⟨rfl, rfl, rfl, rfl, rfl, rfl, rfl, rfl, rfl, rfl, rfl, rfl, trivial⟩, ⟨rfl, rfl, rfl, rfl, rfl, rfl, trivial⟩, rfl⟩⟩) rfl) ?_
    rintro _ rfl
    refine GH2.resl 10 rfl hl3 ?_
    refine GH2.done (by decide +kernel) ?_
    have H := Option.some.inj H
    subst H
    exact RetQ.mk (.inr rfl) [] _ [(1000, ⟨4, false, false, false, 0, [.val (.bool o5)], none⟩), (1001, ⟨4, false, false, false, 0, [.val (.bool o6)], none⟩), (1002, ⟨3, false, false, false, 0, [.val (.int .i64 o7)], none⟩), (1003, ⟨35, false, false, false, 0, [.osl 1004 (Enc.sz (List Int)) 0 (List.length l0)], none⟩), (1004, ⟨22, true, false, false, Enc.sz (List Int), encs l0, none⟩)] trivial ⟨rfl, rfl, rfl, rfl, rfl, trivial⟩ rfl ⟨rfl, rfl⟩
  · have H := condF hc1 H
    refine GW.skip ?_
    have H := Option.some.inj H
    subst H
    exact RetQ.mk (.inr rfl) [] _ [(1000, ⟨4, false, false, false, 0, [.val (.bool c0)], none⟩), (1001, ⟨4, false, false, false, 0, [.val (.bool c00)], none⟩), (1002, ⟨3, false, false, false, 0, [.val (.int .i64 c000)], none⟩), (1003, ⟨35, false, false, false, 0, [.osl 1004 (Enc.sz (List Int)) 0 (List.length l0)], none⟩), (1004, ⟨22, true, false, false, Enc.sz (List Int), encs l0, none⟩)] trivial ⟨rfl, rfl, rfl, rfl, rfl, trivial⟩ rfl ⟨rfl, rfl⟩

theorem plain_Points_ok (fu : Nat) (p0 : SPoints) (r : ((List (List Int)) × Bool)) (H : F.plain_Points fu p0 = some r) : GM Try.prog 14 [.agg [.sl (List.length p0.Box) (encs p0.Box), .sl (List.length p0.Rows) (encs p0.Rows)]] [] (fun g st => g = .tup [.sl (List.length r.1) (encs r.1), .val (.bool r.2)] ∧ st = []) := by
  unfold F.plain_Points at H
  refine GM.strip ?_
  refine GM.of (N := 23) Try.func14 rfl rfl rfl (fun cx hro => ?_)
  change GW _ _ _ _ _ _
  refine GW.seq ?_
  refine GW.region ?_
  refine GL.e1 (W := []) (EF.box 0 rfl rfl rfl) rfl rfl ?_
  refine GL.py (PY.assign rfl) rfl rfl ?_
  refine GL.py (PY.assign rfl) rfl rfl ?_
  refine GL.nil ?_
  change GW _ _ _ _ _ _
  refine GW.seq ?_
  refine GW.region ?_
  refine GL.e1 (W := []) (EF.alloc 1 Try.zeroValue35 rfl) rfl rfl ?_
  refine GL.nil ?_
  change GW _ _ _ _ _ _
  refine GW.seq ?_
  obtain ⟨r1, hr1, H⟩ := bind_some H
  refine GW.region ?_
  refine GL.y (YL.loadAgg rfl rfl rfl Try.isAgg25 Try.sizeOf25 (Nat.le_of_ble_eq_true rfl) rfl) rfl rfl ?_
  refine GL.e (W := []) (EF.callA Try.call31 rfl (mapO_cons rfl rfl) (points_All_ok fu p0 r1 hr1) (by rintro _ _ ⟨rfl, rfl⟩; exact ⟨rfl, rfl⟩)) rfl rfl ?_
  rintro _ ⟨_, _, ⟨rfl, rfl⟩, rfl⟩
  refine GL.py (PY.assign rfl) rfl rfl ?_
  refine GL.nil ?_
  change GW _ _ _ _ _ _
  refine GW.seq ?_
  refine GW.seq ?_
  refine GW.region ?_
  refine GL.py (PY.move rfl) rfl rfl ?_
  refine GL.nil ?_
  change GW _ _ _ _ _ _
  refine GW.block ?_
  refine GW.adoptC 1 0 2 22 (Enc.sz (List Int)) rfl rfl rfl rfl ?_
  obtain ⟨o3, ho3, H⟩ := bind_some H
  refine GW.rangeFunc hro plain_Points_y2_lp 3 [4] [3, 1, 2] false [3, 1, 2] (fun _ _ => rfl) rfl Try.call38 rfl rfl (fun _ => rfl) rfl (by simp) (fun fn => points_All_1_4_ok fn fu r1 ([] : (List (List Int))) o3 ho3) (fun _ => rfl) ?_
  rintro fn _ _ ⟨rfl, rfl⟩
  refine ⟨_, ⟨[(4, .loc 1 0), (5, .clo 38 [.ptr [.sl (List.length r1.Box) (encs r1.Box), .sl (List.length r1.Rows) (encs r1.Rows)]])], [(1, ⟨35, false, true, false, 0, [.osl 2 (Enc.sz (List Int)) 0 (List.length o3)], none⟩), (2, ⟨22, true, true, false, Enc.sz (List Int), encs o3, none⟩)], []⟩, _, _, rfl, rfl, rfl, rfl, ⟨⟨rfl, rfl, trivial⟩, ⟨rfl, rfl, trivial⟩, rfl⟩, rfl, LoopR.on (j := Jp.go) rfl ?_⟩
  change GW _ _ _ _ _ _
  refine GW.seq ?_
  refine GW.region ?_
  refine GL.e1 (W := []) (EF.alloc 4 Try.zeroValue3 rfl) rfl rfl ?_
  refine GL.e1 (W := []) (EF.alloc 5 Try.zeroValue4 rfl) rfl rfl ?_
  refine GL.e1 (W := []) (EF.alloc 6 Try.zeroValue4 rfl) rfl rfl ?_
  refine GL.e0 (EF.storeN (W := [4]) (cells' := [.val (.int .i64 0)]) rfl rfl rfl rfl rfl rfl rfl rfl Try.sizeOf3 (Nat.le_of_ble_eq_true rfl) rfl rfl) rfl ?_
  refine GL.e0 (EF.storeN (W := [5]) (cells' := [.val (.bool true)]) rfl rfl rfl rfl rfl rfl rfl rfl Try.sizeOf4 (Nat.le_of_ble_eq_true rfl) rfl rfl) rfl ?_
  refine GL.e0 (EF.storeN (W := [6]) (cells' := [.val (.bool false)]) rfl rfl rfl rfl rfl rfl rfl rfl Try.sizeOf4 (Nat.le_of_ble_eq_true rfl) rfl rfl) rfl ?_
  refine GL.nil ?_
  change GW _ _ _ _ _ _
  refine GW.seq ?_
  obtain ⟨r7, hr7, H⟩ := bind_some H
  obtain ⟨o4, o5, o6⟩ := r7
  refine GW.region ?_
  refine GL.py (PY.move rfl) rfl rfl ?_
  refine GL.py (PY.makeFunc (gs := [.loc 5 0, .loc 6 0, .loc 4 0, .loc 1 0]) rfl) rfl rfl ?_
  refine GL.e1 (EF.lendV (s1 := ⟨[(4, .loc 1 0), (8, .loc 5 0), (20, .tup [])], [(1, ⟨35, false, true, false, 0, [.osl 2 (Enc.sz (List Int)) 0 (List.length o3)], none⟩), (2, ⟨22, true, true, false, Enc.sz (List Int), encs o3, none⟩), (5, ⟨4, false, true, false, 0, [.val (.bool o4)], none⟩)], []⟩) (W := [5, 6, 4, 1, 2]) [5, 6, 4, 1, 2] false [5, 6, 4, 1, 2] Try.call38 rfl rfl rfl rfl rfl (points_All_1_6_ok fu r1 true false 0 o3 (o4, o5, o6) hr7) (by rintro _ _ ⟨rfl, rfl⟩; exact ⟨_, _, rfl, rfl, ⟨⟨rfl, rfl, rfl, trivial⟩, ⟨rfl, rfl, rfl, trivial⟩, rfl⟩⟩) rfl) rfl rfl ?_
  refine GL.nil ?_
  change GW _ _ _ _ _ _
  refine GW.seq ?_
  refine GW.draws [] mixed ?_
  change GH1 _ _ _ _ _ _ 4 _ _
  refine GH1.take 0 rfl (by decide +kernel) (by decide +kernel) (by decide +kernel) rfl rfl (by decide) (YL.loadN rfl rfl rfl Try.isAgg35 rfl rfl) ?_
  refine GH1.take 1 rfl (by decide +kernel) (by decide +kernel) (by decide +kernel) rfl rfl (by decide) (YL.loadN rfl rfl rfl Try.isAgg4 rfl rfl) ?_
  refine GH1.take 2 rfl (by decide +kernel) (by decide +kernel) (by decide +kernel) rfl rfl (by decide) ((PY.assign rfl).yield _) ?_
  refine GH1.take 3 rfl (by decide +kernel) (by decide +kernel) (by decide +kernel) rfl rfl (by decide) ((PY.assign rfl).yield _) ?_
  refine GH1.done (by decide +kernel) ?_
  change GW _ _ _ _ _ _
  refine GW.ret ?_
  have H := Option.some.inj H
  subst H
  exact RetQ.mk (.inl rfl) [.osl 2 (Enc.sz (List Int)) 0 (List.length o3), .val (.bool o4)] _ [] ⟨Res.tmp rfl, Res.tmp rfl, trivial⟩ trivial (fz_tup (fz_go (fz_vecO (α := (List Int)) (l := o3) rfl rfl rfl rfl rfl rfl) (fz_go rfl rfl))) ⟨rfl, rfl⟩

theorem adjointlaw9_sameLists_ok (fu : Nat) (a0 : (List (List Int))) (b0 : (List (List Int))) (r : Bool) (H : F.adjointlaw9_sameLists fu a0 b0 = some r) : GM Try.prog 12 [.sl (List.length a0) (encs a0), .sl (List.length b0) (encs b0)] [] (fun g st => g = .val (.bool r) ∧ st = []) := by
  unfold F.adjointlaw9_sameLists at H
  refine GM.of (N := 27) Try.func12 rfl rfl rfl (fun cx hro => ?_)
  change GW _ _ _ _ _ _
  refine GW.seq ?_
  refine GW.region ?_
  refine GL.py (PY.assign rfl) rfl rfl ?_
  refine GL.nil ?_
  change GW _ _ _ _ _ _
  refine GW.seq ?_
  refine GW.seq ?_
  refine GW.region ?_
  refine GL.py (PY.move rfl) rfl rfl ?_
  refine GL.py (PY.len rfl rfl Try.underlying35) rfl rfl ?_
  refine GL.py (PY.move rfl) rfl rfl ?_
  refine GL.py (PY.len rfl rfl Try.underlying35) rfl rfl ?_
  refine GL.py (PY.bin rfl rfl rfl) rfl rfl ?_
  refine GL.nil ?_
  change GW _ _ _ _ _ _
  refine GW.cond rfl (fun hc1 => ?_) (fun hc1 => ?_)
  · have H := condT hc1 H
    refine GW.seq ?_
    refine GW.region ?_
    refine GL.py (PY.assign rfl) rfl rfl ?_
    refine GL.nil ?_
    change GW _ _ _ _ _ _
    refine GW.ret ?_
    have H := Option.some.inj H
    subst H
    exact RetQ.mk (.inl rfl) [.val (.bool false)] _ [] ⟨Res.tmp rfl, trivial⟩ trivial rfl ⟨rfl, rfl⟩
  · have H := condF hc1 H
    refine GW.skip ?_
    change GW _ _ _ _ _ _
    refine GW.seq ?_
    refine GW.seq ?_
    refine GW.region ?_
    refine GL.py (PY.move rfl) rfl rfl ?_
    refine GL.py (PY.len rfl rfl Try.underlying35) rfl rfl ?_
    refine GL.py (PY.move rfl) rfl rfl ?_
    refine GL.nil ?_
    change GW _ _ _ _ _ _
    refine GW.block ?_
    obtain ⟨e4, he4, Hb, Hr⟩ := bindE_some H
    refine GW.weak ((fun (q : Int) => (⟨[(0, .sl (List.length a0) (encs a0)), (1, .sl (List.length b0) (encs b0)), (12, .val (.int .i64 (List.length a0 : Int))), (13, .val (.int .i64 q))], [], []⟩ : St)) 0) ⟨⟨rfl, rfl, rfl, rfl, trivial⟩, trivial, rfl⟩ ?_
    refine GW.loopF (fun (q : Int) => (⟨[(0, .sl (List.length a0) (encs a0)), (1, .sl (List.length b0) (encs b0)), (12, .val (.int .i64 (List.length a0 : Int))), (13, .val (.int .i64 q))], [], []⟩ : St)) (QJ (.exit 0) (fun (q : Unit) => (⟨[], [], []⟩ : St)) (fun r2 _ s2 => RetQ Try.prog Try.f12 (fun g st => g = .val (.bool r2) ∧ st = []) .ret s2)) he4 (fun x o hb => ?_) (fun ex s2 _ hx => ?_)
    · obtain ⟨i1, rfl⟩ : ∃ z, z = x := ⟨_, rfl⟩
      have H := hb
      unfold F.adjointlaw9_sameLists_l1 at H
      try dsimp only at H
      refine GW.weak ⟨[(0, .sl (List.length a0) (encs a0)), (1, .sl (List.length b0) (encs b0)), (12, .val (.int .i64 (List.length a0 : Int))), (13, .val (.int .i64 i1))], [], []⟩ ⟨⟨rfl, rfl, rfl, rfl, trivial⟩, trivial, rfl⟩ ?_
      refine GW.seq ?_
      refine GW.region ?_
      refine GL.py (PY.bin rfl rfl rfl) rfl rfl ?_
      refine GL.nil ?_
      change GW _ _ _ _ _ _
      refine GW.seq ?_
      refine GW.cond rfl (fun hc2 => ?_) (fun hc2 => ?_)
      · have H := condT hc2 H
        refine GW.skip ?_
        change GW _ _ _ _ _ _
        refine GW.seq ?_
        refine GW.block ?_
        refine GW.seq ?_
        refine GW.region ?_
        refine GL.py (PY.move rfl) rfl rfl ?_
        refine GL.py (PY.assign rfl) rfl rfl ?_
        refine GL.nil ?_
        change GW _ _ _ _ _ _
        refine GW.seq ?_
        obtain ⟨x2, hx2, H⟩ := bind_some H
        obtain ⟨x3, hx3, H⟩ := bind_some H
        obtain ⟨r4, hr4, H⟩ := bind_some H
        refine GW.draws [] mixed ?_
        change GH1 _ _ _ _ _ _ 10 _ _
        refine GH1.take 0 rfl (by decide +kernel) (by decide +kernel) (by decide +kernel) rfl rfl (by decide) ((PY.move rfl).yield _) ?_
        refine GH1.take 1 rfl (by decide +kernel) (by decide +kernel) (by decide +kernel) rfl rfl (by decide) ((PY.move rfl).yield _) ?_
        refine GH1.take 2 rfl (by decide +kernel) (by decide +kernel) (by decide +kernel) rfl rfl (by decide) ((PY.index rfl rfl rfl (idx_spec hx2).1 (idx_spec hx2).2.1 Try.underlying35 Try.sizeOf22).yield _) ?_
        refine GH1.take 3 rfl (by decide +kernel) (by decide +kernel) (by decide +kernel) rfl rfl (by decide) (YT.elt (α := (List Int)) rfl hx2 rfl Try.isAgg22) ?_
        refine GH1.take 4 rfl (by decide +kernel) (by decide +kernel) (by decide +kernel) rfl rfl (by decide) ((PY.move rfl).yield _) ?_
        refine GH1.take 5 rfl (by decide +kernel) (by decide +kernel) (by decide +kernel) rfl rfl (by decide) ((PY.move rfl).yield _) ?_
        refine GH1.take 6 rfl (by decide +kernel) (by decide +kernel) (by decide +kernel) rfl rfl (by decide) ((PY.index rfl rfl rfl (idx_spec hx3).1 (idx_spec hx3).2.1 Try.underlying35 Try.sizeOf22).yield _) ?_
        refine GH1.take 7 rfl (by decide +kernel) (by decide +kernel) (by decide +kernel) rfl rfl (by decide) (YT.elt (α := (List Int)) rfl hx3 rfl Try.isAgg22) ?_
        refine GH1.later ?_
        refine GH2.one 8 (by decide +kernel) rfl rfl (fun d e => by cases e; decide) (EF.call 4 Try.call20 rfl (mapO_cons rfl (mapO_cons rfl rfl)) (adjointref2_SameList_ok fu x2 x3 r4 hr4) (by rintro _ _ ⟨rfl, rfl⟩; rfl)) ?_
        rintro _ ⟨_, _, ⟨rfl, rfl⟩, rfl⟩
        refine GH2.take 9 rfl (by decide +kernel) (by decide +kernel) (by decide +kernel) rfl rfl (by decide) (PY.un rfl rfl) ?_
        refine GH2.done (by decide +kernel) ?_
        change GW _ _ _ _ _ _
        refine GW.cond rfl (fun hc3 => ?_) (fun hc3 => ?_)
        · have H := condT hc3 H
          refine GW.seq ?_
          refine GW.region ?_
          refine GL.py (PY.assign rfl) rfl rfl ?_
          refine GL.nil ?_
          change GW _ _ _ _ _ _
          refine GW.ret ?_
          cases H
          exact And.intro ret_ne (And.intro rfl (RetQ.mk (.inl rfl) [.val (.bool false)] _ [] ⟨Res.tmp rfl, trivial⟩ trivial rfl ⟨rfl, rfl⟩))
        · have H := condF hc3 H
          refine GW.skip ?_
          change GW _ _ _ _ _ _
          refine GW.region ?_
          refine GL.py (PY.bin rfl rfl rfl) rfl rfl ?_
          refine GL.py (PY.move rfl) rfl rfl ?_
          refine GL.nil ?_
          cases H
          exact And.intro rfl ⟨⟨rfl, rfl, rfl, rfl, trivial⟩, trivial, rfl⟩
      · have H := condF hc2 H
        refine GW.exit ?_
        cases H
        exact And.intro exit_ne (And.intro rfl ⟨trivial, trivial, rfl⟩)
    · cases e4 with
      | ret r2 =>
        obtain ⟨rfl, hx⟩ := hx
        have H := Hr r2 rfl
        subst H
        exact hx
      | brk b2 =>
        obtain ⟨rfl, hs⟩ := hx
        have H := Hb b2 rfl
        change GW _ _ _ _ _ _
        refine GW.weak _ hs ?_
        refine GW.weak ⟨[], [], []⟩ ⟨trivial, trivial, rfl⟩ ?_
        change GW _ _ _ _ _ _
        refine GW.seq ?_
        refine GW.region ?_
        refine GL.py (PY.assign rfl) rfl rfl ?_
        refine GL.nil ?_
        change GW _ _ _ _ _ _
        refine GW.ret ?_
        have H := Option.some.inj H
        subst H
        exact RetQ.mk (.inl rfl) [.val (.bool true)] _ [] ⟨Res.tmp rfl, trivial⟩ trivial rfl ⟨rfl, rfl⟩

theorem adjointlaw9_PointsAll_ok (fu : Nat) (p0 : SPoints) (r : Bool) (H : F.adjointlaw9_PointsAll fu p0 = some r) : GM Try.prog 4 [.agg [.sl (List.length p0.Box) (encs p0.Box), .sl (List.length p0.Rows) (encs p0.Rows)]] [] (fun g st => g = .val (.bool r) ∧ st = []) := by
  unfold F.adjointlaw9_PointsAll at H
  refine GM.of (N := 26) Try.func4 rfl rfl rfl (fun cx hro => ?_)
  change GW _ _ _ _ _ _
  refine GW.seq ?_
  refine GW.region ?_
  refine GL.e1 (W := []) (EF.box 0 rfl rfl rfl) rfl rfl ?_
  refine GL.py (PY.assign rfl) rfl rfl ?_
  refine GL.nil ?_
  change GW _ _ _ _ _ _
  refine GW.seq ?_
  obtain ⟨r1, hr1, H⟩ := bind_some H
  refine GW.region ?_
  refine GL.y (YL.loadAgg rfl rfl rfl Try.isAgg25 Try.sizeOf25 (Nat.le_of_ble_eq_true rfl) rfl) rfl rfl ?_
  refine GL.e (W := []) (EF.callA Try.call14 rfl (mapO_cons rfl rfl) (plain_Points_ok fu p0 r1 hr1) (by rintro _ _ ⟨rfl, rfl⟩; exact ⟨rfl, rfl⟩)) rfl rfl ?_
  rintro _ ⟨_, _, ⟨rfl, rfl⟩, rfl⟩
  refine GL.py (PY.move rfl) rfl rfl ?_
  refine GL.py (PY.extract rfl rfl) rfl rfl ?_
  refine GL.py (PY.extract rfl rfl) rfl rfl ?_
  refine GL.py (PY.assign rfl) rfl rfl ?_
  refine GL.py (PY.assign rfl) rfl rfl ?_
  refine GL.nil ?_
  change GW _ _ _ _ _ _
  refine GW.seq ?_
  refine GW.seq ?_
  obtain ⟨r3, hr3, H⟩ := bind_some H
  refine GW.region ?_
  refine GL.y (YL.loadAgg rfl rfl rfl Try.isAgg25 Try.sizeOf25 (Nat.le_of_ble_eq_true rfl) rfl) rfl rfl ?_
  refine GL.e (W := []) (EF.call 4 Try.call9 rfl (mapO_cons rfl rfl) (adjointref9_Wrong_ok fu p0 r3 hr3) (by rintro _ _ ⟨rfl, rfl⟩; rfl)) rfl rfl ?_
  rintro _ ⟨_, _, ⟨rfl, rfl⟩, rfl⟩
  refine GL.py (PY.bin rfl rfl rfl) rfl rfl ?_
  refine GL.nil ?_
  change GW _ _ _ _ _ _
  refine GW.cond rfl (fun hc1 => ?_) (fun hc1 => ?_)
  · have H := condT hc1 H
    refine GW.seq ?_
    obtain ⟨e3, he3, H⟩ := bind_some H
    obtain ⟨i5, rfl⟩ : ∃ z, z = e3 := ⟨_, rfl⟩
    refine GW.mono (Q := QB .normal (fun (q : Bool) => (⟨[(2, .val (.bool q))], [], []⟩ : St)) i5) ?_ ?_
    · have H := he3
      refine GW.region ?_
      refine GL.py (PY.move rfl) rfl rfl ?_
      refine GL.py (PY.move rfl) rfl rfl ?_
      refine (Bool.eq_false_or_eq_true r1.2).elim (fun hg2 => ?_) (fun hg2 => ?_)
      · have H := condT hg2 H
        refine GL.lit 14 rfl hg2 ?_
        refine GL.py (PY.move rfl) rfl rfl ?_
        refine GL.py (PY.len rfl rfl Try.underlying35) rfl rfl ?_
        refine GL.py (PY.bin rfl rfl rfl) rfl rfl ?_
        refine GL.py (PY.pickT rfl rfl) rfl rfl ?_
        refine GL.py (PY.assign rfl) rfl rfl ?_
        refine GL.nil ?_
        cases H
        exact And.intro rfl ⟨⟨rfl, trivial⟩, trivial, rfl⟩
      · have H := condF hg2 H
        refine GL.lit 14 rfl hg2 ?_
        refine GL.nou rfl rfl ?_
        refine GL.nou rfl rfl ?_
        refine GL.nou rfl rfl ?_
        refine GL.py (PY.pickF rfl rfl) rfl rfl ?_
        refine GL.py (PY.assign rfl) rfl rfl ?_
        refine GL.nil ?_
        cases H
        exact And.intro rfl ⟨⟨rfl, trivial⟩, trivial, rfl⟩
    · rintro _ s2 ⟨rfl, hs⟩
      change GW _ _ _ _ _ _
      refine GW.weak _ hs ?_
      refine GW.weak ⟨[(2, .val (.bool i5))], [], []⟩ ⟨⟨rfl, trivial⟩, trivial, rfl⟩ ?_
      change GW _ _ _ _ _ _
      refine GW.ret ?_
      have H := Option.some.inj H
      subst H
      exact RetQ.mk (.inl rfl) [.val (.bool i5)] _ [] ⟨Res.tmp rfl, trivial⟩ trivial rfl ⟨rfl, rfl⟩
  · have H := condF hc1 H
    refine GW.skip ?_
    change GW _ _ _ _ _ _
    refine GW.seq ?_
    obtain ⟨e5, he5, H⟩ := bind_some H
    obtain ⟨i8, rfl⟩ : ∃ z, z = e5 := ⟨_, rfl⟩
    refine GW.mono (Q := QB .normal (fun (q : Bool) => (⟨[(2, .val (.bool q))], [], []⟩ : St)) i8) ?_ ?_
    · have H := he5
      refine GW.region ?_
      refine GL.py (PY.move rfl) rfl rfl ?_
      refine GL.py (PY.move rfl) rfl rfl ?_
      refine (Bool.eq_false_or_eq_true r1.2).elim (fun hg4 => ?_) (fun hg4 => ?_)
      · have H := condT hg4 H
        obtain ⟨r6, hr6, H⟩ := bind_some H
        obtain ⟨r7, hr7, H⟩ := bind_some H
        refine GL.lit 20 rfl hg4 ?_
        refine GL.py (PY.move rfl) rfl rfl ?_
        refine GL.y (YL.loadAgg rfl rfl rfl Try.isAgg25 Try.sizeOf25 (Nat.le_of_ble_eq_true rfl) rfl) rfl rfl ?_
        refine GL.e (W := []) (EF.call 4 Try.call13 rfl (mapO_cons rfl rfl) (adjointref9_All_ok fu p0 r6 hr6) (by rintro _ _ ⟨rfl, rfl⟩; rfl)) rfl rfl ?_
        rintro _ ⟨_, _, ⟨rfl, rfl⟩, rfl⟩
        refine GL.e (W := []) (EF.call 4 Try.call12 rfl (mapO_cons rfl (mapO_cons rfl rfl)) (adjointlaw9_sameLists_ok fu r1.1 r6 r7 hr7) (by rintro _ _ ⟨rfl, rfl⟩; rfl)) rfl rfl ?_
        rintro _ ⟨_, _, ⟨rfl, rfl⟩, rfl⟩
        refine GL.py (PY.pickT rfl rfl) rfl rfl ?_
        refine GL.py (PY.assign rfl) rfl rfl ?_
        refine GL.nil ?_
        cases H
        exact And.intro rfl ⟨⟨rfl, trivial⟩, trivial, rfl⟩
      · have H := condF hg4 H
        refine GL.lit 20 rfl hg4 ?_
        refine GL.nou rfl rfl ?_
        refine GL.nou rfl rfl ?_
        refine GL.nou rfl rfl ?_
        refine GL.nou rfl rfl ?_
        refine GL.py (PY.pickF rfl rfl) rfl rfl ?_
        refine GL.py (PY.assign rfl) rfl rfl ?_
        refine GL.nil ?_
        cases H
        exact And.intro rfl ⟨⟨rfl, trivial⟩, trivial, rfl⟩
    · rintro _ s2 ⟨rfl, hs⟩
      change GW _ _ _ _ _ _
      refine GW.weak _ hs ?_
      refine GW.weak ⟨[(2, .val (.bool i8))], [], []⟩ ⟨⟨rfl, trivial⟩, trivial, rfl⟩ ?_
      change GW _ _ _ _ _ _
      refine GW.ret ?_
      have H := Option.some.inj H
      subst H
      exact RetQ.mk (.inl rfl) [.val (.bool i8)] _ [] ⟨Res.tmp rfl, trivial⟩ trivial rfl ⟨rfl, rfl⟩

theorem adjointref9_Count_ok (fu : Nat) (p0 : SPoints) (r : (Int × Int)) (H : F.adjointref9_Count fu p0 = some r) : GM Try.prog 16 [.agg [.sl (List.length p0.Box) (encs p0.Box), .sl (List.length p0.Rows) (encs p0.Rows)]] [] (fun g st => g = .tup [.val (.int .i64 r.1), .val (.int .i64 r.2)] ∧ st = []) := by
  unfold F.adjointref9_Count at H
  refine GM.of (N := 13) Try.func16 rfl rfl rfl (fun cx hro => ?_)
  change GW _ _ _ _ _ _
  refine GW.seq ?_
  refine GW.region ?_
  refine GL.e1 (W := []) (EF.box 0 rfl rfl rfl) rfl rfl ?_
  refine GL.py (PY.assign rfl) rfl rfl ?_
  refine GL.py (PY.assign rfl) rfl rfl ?_
  refine GL.nil ?_
  change GW _ _ _ _ _ _
  refine GW.seq ?_
  refine GW.seq ?_
  obtain ⟨r1, hr1, H⟩ := bind_some H
  refine GW.region ?_
  refine GL.y (YL.loadAgg rfl rfl rfl Try.isAgg25 Try.sizeOf25 (Nat.le_of_ble_eq_true rfl) rfl) rfl rfl ?_
  refine GL.e (W := []) (EF.call 4 Try.call9 rfl (mapO_cons rfl rfl) (adjointref9_Wrong_ok fu p0 r1 hr1) (by rintro _ _ ⟨rfl, rfl⟩; rfl)) rfl rfl ?_
  rintro _ ⟨_, _, ⟨rfl, rfl⟩, rfl⟩
  refine GL.py (PY.assign rfl) rfl rfl ?_
  refine GL.nil ?_
  change GW _ _ _ _ _ _
  refine GW.seq ?_
  refine GW.region ?_
  refine GL.py (PY.move rfl) rfl rfl ?_
  refine GL.py (PY.bin rfl rfl rfl) rfl rfl ?_
  refine GL.nil ?_
  change GW _ _ _ _ _ _
  refine GW.cond rfl (fun hc1 => ?_) (fun hc1 => ?_)
  · have H := condT hc1 H
    refine GW.seq ?_
    refine GW.region ?_
    refine GL.py (PY.move rfl) rfl rfl ?_
    refine GL.py (PY.assign rfl) rfl rfl ?_
    refine GL.py (PY.assign rfl) rfl rfl ?_
    refine GL.nil ?_
    change GW _ _ _ _ _ _
    refine GW.ret ?_
    have H := Option.some.inj H
    subst H
    exact RetQ.mk (.inl rfl) [.val (.int .i64 0), .val (.int .i64 r1)] _ [] ⟨Res.tmp rfl, Res.tmp rfl, trivial⟩ trivial rfl ⟨rfl, rfl⟩
  · have H := condF hc1 H
    refine GW.skip ?_
    change GW _ _ _ _ _ _
    refine GW.seq ?_
    obtain ⟨r3, hr3, H⟩ := bind_some H
    refine GW.region ?_
    refine GL.y (YL.loadAgg rfl rfl rfl Try.isAgg25 Try.sizeOf25 (Nat.le_of_ble_eq_true rfl) rfl) rfl rfl ?_
    refine GL.e (W := []) (EF.call 4 Try.call13 rfl (mapO_cons rfl rfl) (adjointref9_All_ok fu p0 r3 hr3) (by rintro _ _ ⟨rfl, rfl⟩; rfl)) rfl rfl ?_
    rintro _ ⟨_, _, ⟨rfl, rfl⟩, rfl⟩
    refine GL.py (PY.len rfl rfl Try.underlying35) rfl rfl ?_
    refine GL.py (PY.assign rfl) rfl rfl ?_
    refine GL.py (PY.assign rfl) rfl rfl ?_
    refine GL.nil ?_
    change GW _ _ _ _ _ _
    refine GW.ret ?_
    have H := Option.some.inj H
    subst H
    exact RetQ.mk (.inl rfl) [.val (.int .i64 (List.length r3 : Int)), .val (.int .i64 0)] _ [] ⟨Res.tmp rfl, Res.tmp rfl, trivial⟩ trivial rfl ⟨rfl, rfl⟩

noncomputable def points_Ends_y3_lp (fn : FuncId) (j : Option Code) : Lp := ⟨fn, 54, [2, 3, 6], #[17], cAsg (cBlk (cSeqR (cSeqL (cSeqR (cSeqR (cSeqR (cOf Try.f18))))))), cBody (cBlk (cSeqR (cSeqL (cSeqR (cSeqR (cSeqR (cOf Try.f18))))))), j⟩
theorem points_Ends_y3_ok (fn : FuncId) (fu : Nat) (a0 : (List Int)) (l0 : (List Int)) (l00 : (List Int)) (c0 : Bool) (r : ((List Int) × (List Int) × Bool)) (H : F.points_Ends_y3 fu a0 l0 l00 c0 = some r) : GY Try.prog (points_Ends_y3_lp fn none) [.loc 1000 0, .loc 1002 0, .loc 1004 0] [.sl (List.length a0) (encs a0)] [(1000, ⟨22, false, false, false, 0, [.osl 1001 (Enc.sz Int) 0 (List.length l0)], none⟩), (1001, ⟨3, true, false, false, Enc.sz Int, encs l0, none⟩), (1002, ⟨22, false, false, false, 0, [.osl 1003 (Enc.sz Int) 0 (List.length l00)], none⟩), (1003, ⟨3, true, false, false, Enc.sz Int, encs l00, none⟩), (1004, ⟨4, false, false, false, 0, [.val (.bool c0)], none⟩)] (fun j st => j = none ∧ st = [(1000, ⟨22, false, false, false, 0, [.osl 501 (Enc.sz Int) 0 (List.length r.1)], none⟩), (501, ⟨3, true, false, true, Enc.sz Int, encs r.1, none⟩), (1002, ⟨22, false, false, false, 0, [.osl 503 (Enc.sz Int) 0 (List.length r.2.1)], none⟩), (503, ⟨3, true, false, true, Enc.sz Int, encs r.2.1, none⟩), (1004, ⟨4, false, false, false, 0, [.val (.bool r.2.2)], none⟩)]) := by
  unfold F.points_Ends_y3 at H
  refine GY.of rfl rfl (fun cx => ?_)
  change GW _ 54 _ _ _ _
  refine GW.weak ⟨[(2, .loc 1000 0), (3, .loc 1002 0), (6, .loc 1004 0), (17, .sl (List.length a0) (encs a0))], [(1000, ⟨22, false, false, false, 0, [.osl 1001 (Enc.sz Int) 0 (List.length l0)], none⟩), (1001, ⟨3, true, false, false, Enc.sz Int, encs l0, none⟩), (1002, ⟨22, false, false, false, 0, [.osl 1003 (Enc.sz Int) 0 (List.length l00)], none⟩), (1003, ⟨3, true, false, false, Enc.sz Int, encs l00, none⟩), (1004, ⟨4, false, false, false, 0, [.val (.bool c0)], none⟩)], []⟩ ⟨⟨rfl, rfl, rfl, rfl, trivial⟩, ⟨rfl, rfl, rfl, rfl, rfl, trivial⟩, rfl⟩ ?_
  refine GW.move 1001 501 rfl rfl ?_
  refine GW.refresh (α := Int) (l := l0) 501 rfl rfl rfl ?_
  refine GW.move 1003 503 rfl rfl ?_
  refine GW.refresh (α := Int) (l := l00) 503 rfl rfl rfl ?_
  refine GW.region ?_
  refine GL.py (PY.assign rfl) rfl rfl ?_
  refine GL.nil ?_
  refine ⟨rfl, fun cx2 => ?_⟩
  change GW _ 54 _ _ _ _
  change GW _ _ _ _ _ _
  refine GW.block ?_
  refine GW.seq ?_
  refine GW.seq ?_
  refine GW.region ?_
  refine GL.y (YL.loadN rfl rfl rfl Try.isAgg4 rfl rfl) rfl rfl ?_
  refine GL.py (PY.un rfl rfl) rfl rfl ?_
  refine GL.nil ?_
  change GW _ _ _ _ _ _
  obtain ⟨e2, he2, H⟩ := bind_some H
  obtain ⟨l1, l2, c3⟩ := e2
  refine GW.mono (Q := QB .normal (fun (q : (List Int) × (List Int) × Bool) => (⟨[(2, .loc 1000 0), (3, .loc 1002 0), (7, .sl (List.length a0) (encs a0))], [(501, ⟨3, true, false, true, Enc.sz Int, encs q.1, none⟩), (503, ⟨3, true, false, true, Enc.sz Int, encs q.2.1, none⟩), (1000, ⟨22, false, false, false, 0, [.osl 501 (Enc.sz Int) 0 (List.length q.1)], none⟩), (1002, ⟨22, false, false, false, 0, [.osl 503 (Enc.sz Int) 0 (List.length q.2.1)], none⟩), (1004, ⟨4, false, false, false, 0, [.val (.bool q.2.2)], none⟩)], []⟩ : St)) (l1, l2, c3)) ?_ ?_
  · have H := he2
    refine GW.cond rfl (fun hc1 => ?_) (fun hc1 => ?_)
    · have H := condT hc1 H
      obtain ⟨r4, hr4, H⟩ := bind_some H
      refine GW.region ?_
      refine GL.py (PY.move rfl) rfl rfl ?_
      refine GL.e1 (EF.lend (s1 := ⟨[(2, .loc 1000 0), (3, .loc 1002 0), (6, .loc 1004 0), (7, .sl (List.length a0) (encs a0)), (21, .osl 201 (Enc.sz Int) 0 (List.length r4))], [(201, ⟨3, true, true, true, Enc.sz Int, encs r4, none⟩), (501, ⟨3, true, false, true, Enc.sz Int, encs l0, none⟩), (503, ⟨3, true, false, true, Enc.sz Int, encs l00, none⟩), (1000, ⟨22, false, false, false, 0, [.osl 501 (Enc.sz Int) 0 (List.length l0)], none⟩), (1002, ⟨22, false, false, false, 0, [.osl 503 (Enc.sz Int) 0 (List.length l00)], none⟩), (1004, ⟨4, false, false, false, 0, [.val (.bool c0)], none⟩)], []⟩) (W := []) [] false [201] Try.call26 rfl rfl rfl rfl (slices_Clone_ok fu a0 r4 hr4) (by rintro _ _ ⟨rfl, rfl⟩; exact ⟨_, _, rfl, rfl, ⟨⟨rfl, rfl, rfl, rfl, rfl, trivial⟩, ⟨rfl, rfl, rfl, rfl, rfl, rfl, trivial⟩, rfl⟩⟩) rfl) rfl rfl ?_
      refine GL.py (PY.move rfl) rfl rfl ?_
      refine GL.e1 (EF.lend (s1 := ⟨[(2, .loc 1000 0), (3, .loc 1002 0), (6, .loc 1004 0), (7, .sl (List.length a0) (encs a0)), (21, .osl 201 (Enc.sz Int) 0 (List.length r4)), (23, .osl 203 (Enc.sz Int) 0 (List.length r4))], [(201, ⟨3, true, true, true, Enc.sz Int, encs r4, none⟩), (203, ⟨3, true, true, true, Enc.sz Int, encs r4, none⟩), (501, ⟨3, true, false, true, Enc.sz Int, encs l0, none⟩), (503, ⟨3, true, false, true, Enc.sz Int, encs l00, none⟩), (1000, ⟨22, false, false, false, 0, [.osl 501 (Enc.sz Int) 0 (List.length l0)], none⟩), (1002, ⟨22, false, false, false, 0, [.osl 503 (Enc.sz Int) 0 (List.length l00)], none⟩), (1004, ⟨4, false, false, false, 0, [.val (.bool c0)], none⟩)], []⟩) (W := []) [] false [203] Try.call26 rfl rfl rfl rfl (slices_Clone_ok fu a0 r4 hr4) (by rintro _ _ ⟨rfl, rfl⟩; exact ⟨_, _, rfl, rfl, ⟨⟨rfl, rfl, rfl, rfl, rfl, rfl, trivial⟩, ⟨rfl, rfl, rfl, rfl, rfl, rfl, rfl, trivial⟩, rfl⟩⟩) rfl) rfl rfl ?_
      refine GL.e0 (EF.storeN (W := [1000]) (cells' := [.osl 201 (Enc.sz Int) 0 (List.length r4)]) rfl rfl rfl rfl rfl rfl rfl rfl Try.sizeOf22 (Nat.le_of_ble_eq_true rfl) rfl rfl) rfl ?_
      refine GL.weak ⟨[(2, .loc 1000 0), (3, .loc 1002 0), (6, .loc 1004 0), (7, .sl (List.length a0) (encs a0)), (23, .osl 203 (Enc.sz Int) 0 (List.length r4))], [(201, ⟨3, true, true, true, Enc.sz Int, encs r4, none⟩), (203, ⟨3, true, true, true, Enc.sz Int, encs r4, none⟩), (503, ⟨3, true, false, true, Enc.sz Int, encs l00, none⟩), (1000, ⟨22, false, false, false, 0, [.osl 201 (Enc.sz Int) 0 (List.length r4)], none⟩), (1002, ⟨22, false, false, false, 0, [.osl 503 (Enc.sz Int) 0 (List.length l00)], none⟩), (1004, ⟨4, false, false, false, 0, [.val (.bool c0)], none⟩)], []⟩ ⟨⟨rfl, rfl, rfl, rfl, rfl, trivial⟩, ⟨rfl, rfl, rfl, rfl, rfl, rfl, trivial⟩, rfl⟩ ?_
      refine GL.move 201 501 rfl rfl ?_
      refine GL.unmine 501 rfl ?_
      refine GL.e0 (EF.storeN (W := [1002]) (cells' := [.osl 203 (Enc.sz Int) 0 (List.length r4)]) rfl rfl rfl rfl rfl rfl rfl rfl Try.sizeOf22 (Nat.le_of_ble_eq_true rfl) rfl rfl) rfl ?_
      refine GL.weak ⟨[(2, .loc 1000 0), (3, .loc 1002 0), (6, .loc 1004 0), (7, .sl (List.length a0) (encs a0))], [(203, ⟨3, true, true, true, Enc.sz Int, encs r4, none⟩), (501, ⟨3, true, false, true, Enc.sz Int, encs r4, none⟩), (1000, ⟨22, false, false, false, 0, [.osl 501 (Enc.sz Int) 0 (List.length r4)], none⟩), (1002, ⟨22, false, false, false, 0, [.osl 203 (Enc.sz Int) 0 (List.length r4)], none⟩), (1004, ⟨4, false, false, false, 0, [.val (.bool c0)], none⟩)], []⟩ ⟨⟨rfl, rfl, rfl, rfl, trivial⟩, ⟨rfl, rfl, rfl, rfl, rfl, trivial⟩, rfl⟩ ?_
      refine GL.move 203 503 rfl rfl ?_
      refine GL.unmine 503 rfl ?_
      refine GL.e0 (EF.storeN (W := [1004]) (cells' := [.val (.bool true)]) rfl rfl rfl rfl rfl rfl rfl rfl Try.sizeOf4 (Nat.le_of_ble_eq_true rfl) rfl rfl) rfl ?_
      refine GL.nil ?_
      cases H
      exact And.intro rfl ⟨⟨rfl, rfl, rfl, trivial⟩, ⟨rfl, rfl, rfl, rfl, rfl, trivial⟩, rfl⟩
    · have H := condF hc1 H
      refine GW.skip ?_
      cases H
      exact And.intro rfl ⟨⟨rfl, rfl, rfl, trivial⟩, ⟨rfl, rfl, rfl, rfl, rfl, trivial⟩, rfl⟩
  · rintro _ s2 ⟨rfl, hs⟩
    change GW _ _ _ _ _ _
    refine GW.weak _ hs ?_
    refine GW.weak ⟨[(2, .loc 1000 0), (3, .loc 1002 0), (7, .sl (List.length a0) (encs a0))], [(501, ⟨3, true, false, true, Enc.sz Int, encs l1, none⟩), (503, ⟨3, true, false, true, Enc.sz Int, encs l2, none⟩), (1000, ⟨22, false, false, false, 0, [.osl 501 (Enc.sz Int) 0 (List.length l1)], none⟩), (1002, ⟨22, false, false, false, 0, [.osl 503 (Enc.sz Int) 0 (List.length l2)], none⟩), (1004, ⟨4, false, false, false, 0, [.val (.bool c3)], none⟩)], []⟩ ⟨⟨rfl, rfl, rfl, trivial⟩, ⟨rfl, rfl, rfl, rfl, rfl, trivial⟩, rfl⟩ ?_
    change GW _ _ _ _ _ _
    refine GW.seq ?_
    refine GW.region ?_
    refine GL.py (PY.move rfl) rfl rfl ?_
    refine GL.py (PY.len rfl rfl Try.underlying22) rfl rfl ?_
    refine GL.py (PY.move rfl) rfl rfl ?_
    refine GL.nil ?_
    change GW _ _ _ _ _ _
    refine GW.block ?_
    obtain ⟨e4, he4, H⟩ := bind_some H
    refine GW.weak ((fun (q : Int × (List Int) × (List Int)) => (⟨[(2, .loc 1000 0), (3, .loc 1002 0), (24, .sl (List.length a0) (encs a0)), (25, .val (.int .i64 (List.length a0 : Int))), (26, .val (.int .i64 q.1))], [(501, ⟨3, true, false, true, Enc.sz Int, encs q.2.1, none⟩), (503, ⟨3, true, false, true, Enc.sz Int, encs q.2.2, none⟩), (1000, ⟨22, false, false, false, 0, [.osl 501 (Enc.sz Int) 0 (List.length q.2.1)], none⟩), (1002, ⟨22, false, false, false, 0, [.osl 503 (Enc.sz Int) 0 (List.length q.2.2)], none⟩), (1004, ⟨4, false, false, false, 0, [.val (.bool c3)], none⟩)], []⟩ : St)) (0, l1, l2)) ⟨⟨rfl, rfl, rfl, rfl, rfl, trivial⟩, ⟨rfl, rfl, rfl, rfl, rfl, trivial⟩, rfl⟩ ?_
    refine GW.loopF (fun (q : Int × (List Int) × (List Int)) => (⟨[(2, .loc 1000 0), (3, .loc 1002 0), (24, .sl (List.length a0) (encs a0)), (25, .val (.int .i64 (List.length a0 : Int))), (26, .val (.int .i64 q.1))], [(501, ⟨3, true, false, true, Enc.sz Int, encs q.2.1, none⟩), (503, ⟨3, true, false, true, Enc.sz Int, encs q.2.2, none⟩), (1000, ⟨22, false, false, false, 0, [.osl 501 (Enc.sz Int) 0 (List.length q.2.1)], none⟩), (1002, ⟨22, false, false, false, 0, [.osl 503 (Enc.sz Int) 0 (List.length q.2.2)], none⟩), (1004, ⟨4, false, false, false, 0, [.val (.bool c3)], none⟩)], []⟩ : St)) (QB (.exit 2) (fun (q : (List Int) × (List Int)) => (⟨[], [(501, ⟨3, true, false, true, Enc.sz Int, encs q.1, none⟩), (503, ⟨3, true, false, true, Enc.sz Int, encs q.2, none⟩), (1000, ⟨22, false, false, false, 0, [.osl 501 (Enc.sz Int) 0 (List.length q.1)], none⟩), (1002, ⟨22, false, false, false, 0, [.osl 503 (Enc.sz Int) 0 (List.length q.2)], none⟩), (1004, ⟨4, false, false, false, 0, [.val (.bool c3)], none⟩)], []⟩ : St))) he4 (fun x o hb => ?_) (fun ex s2 _ hx => ?_)
    · obtain ⟨i5, l6, l7⟩ := x
      have H := hb
      unfold F.points_Ends_y3_l1 at H
      try dsimp only at H
      refine GW.weak ⟨[(2, .loc 1000 0), (3, .loc 1002 0), (24, .sl (List.length a0) (encs a0)), (25, .val (.int .i64 (List.length a0 : Int))), (26, .val (.int .i64 i5))], [(501, ⟨3, true, false, true, Enc.sz Int, encs l6, none⟩), (503, ⟨3, true, false, true, Enc.sz Int, encs l7, none⟩), (1000, ⟨22, false, false, false, 0, [.osl 501 (Enc.sz Int) 0 (List.length l6)], none⟩), (1002, ⟨22, false, false, false, 0, [.osl 503 (Enc.sz Int) 0 (List.length l7)], none⟩), (1004, ⟨4, false, false, false, 0, [.val (.bool c3)], none⟩)], []⟩ ⟨⟨rfl, rfl, rfl, rfl, rfl, trivial⟩, ⟨rfl, rfl, rfl, rfl, rfl, trivial⟩, rfl⟩ ?_
      refine GW.seq ?_
      refine GW.region ?_
      refine GL.py (PY.bin rfl rfl rfl) rfl rfl ?_
      refine GL.nil ?_
      change GW _ _ _ _ _ _
      refine GW.seq ?_
      refine GW.cond rfl (fun hc3 => ?_) (fun hc3 => ?_)
      · have H := condT hc3 H
        refine GW.skip ?_
        change GW _ _ _ _ _ _
        refine GW.seq ?_
        refine GW.block ?_
        refine GW.seq ?_
        obtain ⟨x10, hx10, H⟩ := bind_some H
        refine GW.region ?_
        refine GL.py (PY.move rfl) rfl rfl ?_
        refine GL.py (PY.index rfl rfl rfl (idx_spec hx10).1 (idx_spec hx10).2.1 Try.underlying22 Try.sizeOf3) rfl rfl ?_
        refine GL.y (YT.elt (α := Int) rfl hx10 rfl Try.isAgg3) rfl rfl ?_
        refine GL.py (PY.assign rfl) rfl rfl ?_
        refine GL.py (PY.assign rfl) rfl rfl ?_
        refine GL.nil ?_
        change GW _ _ _ _ _ _
        obtain ⟨x11, hx11, H⟩ := bind_some H
        obtain ⟨x12, hx12, H⟩ := bind_some H
        refine GW.mono (Q := QB .normal (fun (q : Unit) => (⟨[(2, .loc 1000 0), (3, .loc 1002 0), (24, .sl (List.length a0) (encs a0)), (25, .val (.int .i64 (List.length a0 : Int))), (26, .val (.int .i64 i5))], [(501, ⟨3, true, false, true, Enc.sz Int, encs (List.set l6 (Int.toNat i5) (if x10 < x11 then x10 else x11)), none⟩), (503, ⟨3, true, false, true, Enc.sz Int, encs (List.set l7 (Int.toNat i5) (if x10 > x12 then x10 else x12)), none⟩), (1000, ⟨22, false, false, false, 0, [.osl 501 (Enc.sz Int) 0 (List.length (List.set l6 (Int.toNat i5) (if x10 < x11 then x10 else x11)))], none⟩), (1002, ⟨22, false, false, false, 0, [.osl 503 (Enc.sz Int) 0 (List.length (List.set l7 (Int.toNat i5) (if x10 > x12 then x10 else x12)))], none⟩), (1004, ⟨4, false, false, false, 0, [.val (.bool c3)], none⟩)], []⟩ : St)) ()) ?_ ?_
        · refine GW.draws [501, 503] mixed ?_
          change GH1 _ _ _ _ _ _ 20 _ _
          refine GH1.take 0 rfl (by decide +kernel) (by decide +kernel) (by decide +kernel) rfl rfl (by decide) (YL.loadN rfl rfl rfl Try.isAgg22 rfl rfl) ?_
          refine GH1.take 1 rfl (by decide +kernel) (by decide +kernel) (by decide +kernel) rfl rfl (by decide) ((PY.move rfl).yield _) ?_
          refine GH1.take 2 rfl (by decide +kernel) (by decide +kernel) (by decide +kernel) rfl rfl (by decide) (YL.loadN rfl rfl rfl Try.isAgg22 rfl rfl) ?_
          refine GH1.take 3 rfl (by decide +kernel) (by decide +kernel) (by decide +kernel) rfl rfl (by decide) ((PY.move rfl).yield _) ?_
          refine GH1.take 4 rfl (by decide +kernel) (by decide +kernel) (by decide +kernel) rfl rfl (by decide) (YL.loadN rfl rfl rfl Try.isAgg22 rfl rfl) ?_
          refine GH1.take 5 rfl (by decide +kernel) (by decide +kernel) (by decide +kernel) rfl rfl (by decide) ((PY.move rfl).yield _) ?_
          refine GH1.take 6 rfl (by decide +kernel) (by decide +kernel) (by decide +kernel) rfl rfl (by decide) ((PY.index rfl rfl rfl (idx_spec hx11).1 (idx_spec hx11).2.1 Try.underlying22 Try.sizeOf3).yield _) ?_
          refine GH1.take 8 rfl (by decide +kernel) (by decide +kernel) (by decide +kernel) rfl rfl (by decide) ((PY.move rfl).yield _) ?_
          refine GH1.take 10 rfl (by decide +kernel) (by decide +kernel) (by decide +kernel) rfl rfl (by decide) (YL.loadN rfl rfl rfl Try.isAgg22 rfl rfl) ?_
          refine GH1.take 11 rfl (by decide +kernel) (by decide +kernel) (by decide +kernel) rfl rfl (by decide) ((PY.move rfl).yield _) ?_
          refine GH1.take 12 rfl (by decide +kernel) (by decide +kernel) (by decide +kernel) rfl rfl (by decide) ((PY.index rfl rfl rfl (idx_spec hx12).1 (idx_spec hx12).2.1 Try.underlying22 Try.sizeOf3).yield _) ?_
          refine GH1.take 14 rfl (by decide +kernel) (by decide +kernel) (by decide +kernel) rfl rfl (by decide) ((PY.move rfl).yield _) ?_
          refine GH1.later ?_
          refine GH2.any 7 [13] (by decide +kernel) ⟨Turn.y 7 rfl rfl rfl (by decide) (YT.own (α := Int) rfl rfl rfl hx11 rfl Try.isAgg3 rfl rfl) ?_, Turn.y 13 rfl rfl rfl (by decide) (YT.own (α := Int) rfl rfl rfl hx12 rfl Try.isAgg3 rfl rfl) ?_, trivial⟩
          · refine GH2.take 9 rfl (by decide +kernel) (by decide +kernel) (by decide +kernel) rfl rfl (by decide) (PY.min2 rfl rfl) ?_
            refine GH2.oneY 13 (by decide +kernel) rfl rfl rfl (by decide) (YT.own (α := Int) rfl rfl rfl hx12 rfl Try.isAgg3 rfl rfl) ?_
            refine GH2.take 15 rfl (by decide +kernel) (by decide +kernel) (by decide +kernel) rfl rfl (by decide) (PY.max2 rfl rfl) ?_
            refine GH2.take 16 rfl (by decide +kernel) (by decide +kernel) (by decide +kernel) rfl rfl (by decide) (PY.index rfl rfl rfl (idx_spec hx11).1 (idx_spec hx11).2.1 Try.underlying22 Try.sizeOf3) ?_
            refine GH2.one 17 (by decide +kernel) rfl rfl (fun d e => by cases e) (ET.set (α := Int) (x := (if x10 < x11 then x10 else x11)) rfl rfl rfl rfl rfl rfl rfl rfl rfl (idx_spec hx11).1 (idx_spec hx11).2.1 Try.sizeOf3 rfl) ?_
            rintro _ rfl
            refine GH2.resl 31 rfl (show List.length l6 = List.length (List.set l6 (Int.toNat i5) (if x10 < x11 then x10 else x11)) from List.length_set.symm) ?_
            refine GH2.resl 35 rfl (show List.length l6 = List.length (List.set l6 (Int.toNat i5) (if x10 < x11 then x10 else x11)) from List.length_set.symm) ?_
            refine GH2.resC 1000 0 rfl rfl (show List.length l6 = List.length (List.set l6 (Int.toNat i5) (if x10 < x11 then x10 else x11)) from List.length_set.symm) ?_
            refine GH2.take 18 rfl (by decide +kernel) (by decide +kernel) (by decide +kernel) rfl rfl (by decide) (PY.index rfl rfl rfl (idx_spec hx12).1 (idx_spec hx12).2.1 Try.underlying22 Try.sizeOf3) ?_
            refine GH2.one 19 (by decide +kernel) rfl rfl (fun d e => by cases e) (ET.set (α := Int) (x := (if x10 > x12 then x10 else x12)) rfl rfl rfl rfl rfl rfl rfl rfl rfl (idx_spec hx12).1 (idx_spec hx12).2.1 Try.sizeOf3 rfl) ?_
            rintro _ rfl
            refine GH2.resl 33 rfl (show List.length l7 = List.length (List.set l7 (Int.toNat i5) (if x10 > x12 then x10 else x12)) from List.length_set.symm) ?_
            refine GH2.resl 41 rfl (show List.length l7 = List.length (List.set l7 (Int.toNat i5) (if x10 > x12 then x10 else x12)) from List.length_set.symm) ?_
            refine GH2.resC 1002 0 rfl rfl (show List.length l7 = List.length (List.set l7 (Int.toNat i5) (if x10 > x12 then x10 else x12)) from List.length_set.symm) ?_
            refine GH2.done (by decide +kernel) ?_
            exact And.intro rfl ⟨⟨rfl, rfl, rfl, rfl, rfl, trivial⟩, ⟨rfl, rfl, rfl, rfl, rfl, trivial⟩, rfl⟩
          · refine GH2.take 15 rfl (by decide +kernel) (by decide +kernel) (by decide +kernel) rfl rfl (by decide) (PY.max2 rfl rfl) ?_
            refine GH2.oneY 7 (by decide +kernel) rfl rfl rfl (by decide) (YT.own (α := Int) rfl rfl rfl hx11 rfl Try.isAgg3 rfl rfl) ?_
            refine GH2.take 9 rfl (by decide +kernel) (by decide +kernel) (by decide +kernel) rfl rfl (by decide) (PY.min2 rfl rfl) ?_
            refine GH2.take 16 rfl (by decide +kernel) (by decide +kernel) (by decide +kernel) rfl rfl (by decide) (PY.index rfl rfl rfl (idx_spec hx11).1 (idx_spec hx11).2.1 Try.underlying22 Try.sizeOf3) ?_
            refine GH2.one 17 (by decide +kernel) rfl rfl (fun d e => by cases e) (ET.set (α := Int) (x := (if x10 < x11 then x10 else x11)) rfl rfl rfl rfl rfl rfl rfl rfl rfl (idx_spec hx11).1 (idx_spec hx11).2.1 Try.sizeOf3 rfl) ?_
            rintro _ rfl
            refine GH2.resl 31 rfl (show List.length l6 = List.length (List.set l6 (Int.toNat i5) (if x10 < x11 then x10 else x11)) from List.length_set.symm) ?_
            refine GH2.resl 35 rfl (show List.length l6 = List.length (List.set l6 (Int.toNat i5) (if x10 < x11 then x10 else x11)) from List.length_set.symm) ?_
            refine GH2.resC 1000 0 rfl rfl (show List.length l6 = List.length (List.set l6 (Int.toNat i5) (if x10 < x11 then x10 else x11)) from List.length_set.symm) ?_
            refine GH2.take 18 rfl (by decide +kernel) (by decide +kernel) (by decide +kernel) rfl rfl (by decide) (PY.index rfl rfl rfl (idx_spec hx12).1 (idx_spec hx12).2.1 Try.underlying22 Try.sizeOf3) ?_
            refine GH2.one 19 (by decide +kernel) rfl rfl (fun d e => by cases e) (ET.set (α := Int) (x := (if x10 > x12 then x10 else x12)) rfl rfl rfl rfl rfl rfl rfl rfl rfl (idx_spec hx12).1 (idx_spec hx12).2.1 Try.sizeOf3 rfl) ?_
            rintro _ rfl
            refine GH2.resl 33 rfl (show List.length l7 = List.length (List.set l7 (Int.toNat i5) (if x10 > x12 then x10 else x12)) from List.length_set.symm) ?_
            refine GH2.resl 41 rfl (show List.length l7 = List.length (List.set l7 (Int.toNat i5) (if x10 > x12 then x10 else x12)) from List.length_set.symm) ?_
            refine GH2.resC 1002 0 rfl rfl (show List.length l7 = List.length (List.set l7 (Int.toNat i5) (if x10 > x12 then x10 else x12)) from List.length_set.symm) ?_
            refine GH2.done (by decide +kernel) ?_
            exact And.intro rfl ⟨⟨rfl, rfl, rfl, rfl, rfl, trivial⟩, ⟨rfl, rfl, rfl, rfl, rfl, trivial⟩, rfl⟩
        · rintro _ s2 ⟨rfl, hs⟩
          change GW _ _ _ _ _ _
          refine GW.weak _ hs ?_
          refine GW.weak ⟨[(2, .loc 1000 0), (3, .loc 1002 0), (24, .sl (List.length a0) (encs a0)), (25, .val (.int .i64 (List.length a0 : Int))), (26, .val (.int .i64 i5))], [(501, ⟨3, true, false, true, Enc.sz Int, encs (List.set l6 (Int.toNat i5) (if x10 < x11 then x10 else x11)), none⟩), (503, ⟨3, true, false, true, Enc.sz Int, encs (List.set l7 (Int.toNat i5) (if x10 > x12 then x10 else x12)), none⟩), (1000, ⟨22, false, false, false, 0, [.osl 501 (Enc.sz Int) 0 (List.length (List.set l6 (Int.toNat i5) (if x10 < x11 then x10 else x11)))], none⟩), (1002, ⟨22, false, false, false, 0, [.osl 503 (Enc.sz Int) 0 (List.length (List.set l7 (Int.toNat i5) (if x10 > x12 then x10 else x12)))], none⟩), (1004, ⟨4, false, false, false, 0, [.val (.bool c3)], none⟩)], []⟩ ⟨⟨rfl, rfl, rfl, rfl, rfl, trivial⟩, ⟨rfl, rfl, rfl, rfl, rfl, trivial⟩, rfl⟩ ?_
          change GW _ _ _ _ _ _
          refine GW.region ?_
          refine GL.py (PY.bin rfl rfl rfl) rfl rfl ?_
          refine GL.py (PY.move rfl) rfl rfl ?_
          refine GL.nil ?_
          cases H
          exact And.intro rfl ⟨⟨rfl, rfl, rfl, rfl, rfl, trivial⟩, ⟨rfl, rfl, rfl, rfl, rfl, trivial⟩, rfl⟩
      · have H := condF hc3 H
        refine GW.exit ?_
        cases H
        exact And.intro exit_ne (And.intro rfl ⟨trivial, ⟨rfl, rfl, rfl, rfl, rfl, trivial⟩, rfl⟩)
    · obtain ⟨rfl, hs⟩ := hx
      obtain ⟨l8, l9⟩ := e4
      refine Eblock_hit ?_
      refine Eblock_pass ?_
      refine RoundQ.weak hs ?_
      refine RoundQ.weak (s' := ⟨[], [(501, ⟨3, true, false, true, Enc.sz Int, encs l8, none⟩), (503, ⟨3, true, false, true, Enc.sz Int, encs l9, none⟩), (1000, ⟨22, false, false, false, 0, [.osl 501 (Enc.sz Int) 0 (List.length l8)], none⟩), (1002, ⟨22, false, false, false, 0, [.osl 503 (Enc.sz Int) 0 (List.length l9)], none⟩), (1004, ⟨4, false, false, false, 0, [.val (.bool c3)], none⟩)], []⟩) ⟨trivial, ⟨rfl, rfl, rfl, rfl, rfl, trivial⟩, rfl⟩ ?_
      have H := Option.some.inj H
      subst H
      exact ⟨rfl, [(1000, ⟨22, false, false, false, 0, [.osl 501 (Enc.sz Int) 0 (List.length l8)], none⟩), (501, ⟨3, true, false, true, Enc.sz Int, encs l8, none⟩), (1002, ⟨22, false, false, false, 0, [.osl 503 (Enc.sz Int) 0 (List.length l9)], none⟩), (503, ⟨3, true, false, true, Enc.sz Int, encs l9, none⟩), (1004, ⟨4, false, false, false, 0, [.val (.bool c3)], none⟩)], ⟨rfl, rfl, rfl, rfl, rfl, trivial⟩, rfl, rfl⟩

theorem points_walk_8_ok (fn : FuncId) (fu : Nat) : ∀ (p0 : SPoints) (k0 : Int) (l0 : (List Int)) (l00 : (List Int)) (l000 : (List Int)) (c0 : Bool) (r : (Bool × (List Int) × (List Int) × (List Int) × Bool)) (H : F.points_walk_8 fu p0 k0 l0 l00 l000 c0 = some r), GM Try.prog 39 [.agg [.sl (List.length p0.Box) (encs p0.Box), .sl (List.length p0.Rows) (encs p0.Rows)], .osl 1000 (Enc.sz Int) 0 (List.length l0), .val (.int .i64 k0), .yld 1001] [(1000, ⟨3, true, false, false, Enc.sz Int, encs l0, none⟩), (1001, (loopB [.loc 1002 0, .loc 1004 0, .loc 1006 0] (points_Ends_y3_lp fn (jmpc 0 Jp.go)))), (1002, ⟨22, false, false, false, 0, [.osl 1003 (Enc.sz Int) 0 (List.length l00)], none⟩), (1003, ⟨3, true, false, false, Enc.sz Int, encs l00, none⟩), (1004, ⟨22, false, false, false, 0, [.osl 1005 (Enc.sz Int) 0 (List.length l000)], none⟩), (1005, ⟨3, true, false, false, Enc.sz Int, encs l000, none⟩), (1006, ⟨4, false, false, false, 0, [.val (.bool c0)], none⟩)] (fun g st => g = .val (.bool r.1) ∧ st = [(1000, ⟨3, true, false, true, Enc.sz Int, encs r.2.1, none⟩), (1001, (loopB [.loc 1002 0, .loc 1004 0, .loc 1006 0] (points_Ends_y3_lp fn (jmpc 0 Jp.go)))), (1002, ⟨22, false, false, false, 0, [.osl 503 (Enc.sz Int) 0 (List.length r.2.2.1)], none⟩), (503, ⟨3, true, false, true, Enc.sz Int, encs r.2.2.1, none⟩), (1004, ⟨22, false, false, false, 0, [.osl 505 (Enc.sz Int) 0 (List.length r.2.2.2.1)], none⟩), (505, ⟨3, true, false, true, Enc.sz Int, encs r.2.2.2.1, none⟩), (1006, ⟨4, false, false, false, 0, [.val (.bool r.2.2.2.2)], none⟩)]) := by
  induction fu with
  | zero => intro p0 k0 l0 l00 l000 c0 r H; cases H
  | succ fu ih =>
    intro p0 k0 l0 l00 l000 c0 r H
    replace H : F.points_walk_8_body fu (F.points_walk_8 fu) p0 k0 l0 l00 l000 c0 = some r := H
    unfold F.points_walk_8_body at H
    refine GM.of (N := 48) Try.func39 rfl rfl rfl (fun cx hro => ?_)
    change GW _ _ _ _ _ _
    refine GW.refresh (α := Int) (l := l0) 1000 rfl rfl rfl ?_
    refine GW.move 1003 503 rfl rfl ?_
    refine GW.refresh (α := Int) (l := l00) 503 rfl rfl rfl ?_
    refine GW.move 1005 505 rfl rfl ?_
    refine GW.refresh (α := Int) (l := l000) 505 rfl rfl rfl ?_
    refine GW.seq ?_
    refine GW.region ?_
    refine GL.e1 (W := []) (EF.box 0 rfl rfl rfl) rfl rfl ?_
    refine GL.py (PY.assign rfl) rfl rfl ?_
    refine GL.nil ?_
    change GW _ _ _ _ _ _
    refine GW.seq ?_
    refine GW.seq ?_
    obtain ⟨r1, hr1, H⟩ := bind_some H
    refine GW.region ?_
    refine GL.y (YL.loadAgg rfl rfl rfl Try.isAgg25 Try.sizeOf25 (Nat.le_of_ble_eq_true rfl) rfl) rfl rfl ?_
    refine GL.py (PY.move rfl) rfl rfl ?_
    refine GL.py (PY.move rfl) rfl rfl ?_
    refine GL.e (W := []) (EF.call 4 Try.call46 rfl (mapO_cons rfl (mapO_cons (view_vec (α := Int) (l := l0) rfl rfl rfl) (mapO_cons rfl rfl))) (points_hopeless_ok fu p0 l0 k0 r1 hr1) (by rintro _ _ ⟨rfl, rfl⟩; rfl)) rfl rfl ?_
    rintro _ ⟨_, _, ⟨rfl, rfl⟩, rfl⟩
    refine GL.nil ?_
    change GW _ _ _ _ _ _
    refine GW.cond rfl (fun hc1 => ?_) (fun hc1 => ?_)
    · have H := condT hc1 H
      refine GW.seq ?_
      refine GW.region ?_
      refine GL.py (PY.assign rfl) rfl rfl ?_
      refine GL.nil ?_
      change GW _ _ _ _ _ _
      refine GW.ret ?_
      have H := Option.some.inj H
      subst H
      exact RetQ.mk (.inl rfl) [.val (.bool true)] _ [(1000, ⟨3, true, false, true, Enc.sz Int, encs l0, none⟩), (1001, (loopB [.loc 1002 0, .loc 1004 0, .loc 1006 0] (points_Ends_y3_lp fn (jmpc 0 Jp.go)))), (1002, ⟨22, false, false, false, 0, [.osl 503 (Enc.sz Int) 0 (List.length l00)], none⟩), (503, ⟨3, true, false, true, Enc.sz Int, encs l00, none⟩), (1004, ⟨22, false, false, false, 0, [.osl 505 (Enc.sz Int) 0 (List.length l000)], none⟩), (505, ⟨3, true, false, true, Enc.sz Int, encs l000, none⟩), (1006, ⟨4, false, false, false, 0, [.val (.bool c0)], none⟩)] ⟨Res.tmp rfl, trivial⟩ ⟨rfl, rfl, rfl, rfl, rfl, rfl, rfl, trivial⟩ rfl ⟨rfl, rfl⟩
    · have H := condF hc1 H
      refine GW.skip ?_
      change GW _ _ _ _ _ _
      refine GW.seq ?_
      refine GW.seq ?_
      refine GW.region ?_
      refine GL.py (PY.move rfl) rfl rfl ?_
      refine GL.py (PY.field rfl rfl Try.underlying25 rfl Try.sizeOf22 (by decide)) rfl rfl ?_
      refine GL.y (YL.loadN rfl rfl rfl Try.isAgg22 rfl rfl) rfl rfl ?_
      refine GL.py (PY.len rfl rfl Try.underlying22) rfl rfl ?_
      refine GL.py (PY.bin rfl rfl rfl) rfl rfl ?_
      refine GL.nil ?_
      change GW _ _ _ _ _ _
      refine GW.cond rfl (fun hc2 => ?_) (fun hc2 => ?_)
      · have H := condT hc2 H
        refine GW.seq ?_
        obtain ⟨r3, hr3, H⟩ := bind_some H
        obtain ⟨r7, hr7, H⟩ := bind_some H
        obtain ⟨o4, o5, o6⟩ := r7
        refine GW.region ?_
        refine GL.py (PY.move rfl) rfl rfl ?_
        refine GL.py (PY.move rfl) rfl rfl ?_
        refine GL.e1 (EF.lend (s1 := ⟨[(8, .val (.bool false)), (18, .yld 1001), (20, .osl 203 (Enc.sz Int) 0 (List.length r3))], [(203, ⟨3, true, true, true, Enc.sz Int, encs r3, none⟩), (503, ⟨3, true, false, true, Enc.sz Int, encs l00, none⟩), (505, ⟨3, true, false, true, Enc.sz Int, encs l000, none⟩), (1000, ⟨3, true, false, true, Enc.sz Int, encs l0, none⟩), (1001, (loopB [.loc 1002 0, .loc 1004 0, .loc 1006 0] (points_Ends_y3_lp fn (jmpc 0 Jp.go)))), (1002, ⟨22, false, false, false, 0, [.osl 503 (Enc.sz Int) 0 (List.length l00)], none⟩), (1004, ⟨22, false, false, false, 0, [.osl 505 (Enc.sz Int) 0 (List.length l000)], none⟩), (1006, ⟨4, false, false, false, 0, [.val (.bool c0)], none⟩)], []⟩) (W := []) [] true [203] Try.call26 rfl (lend_cons (view_vec (α := Int) (l := l0) rfl rfl rfl) rfl) rfl rfl (slices_Clone_ok fu l0 r3 hr3) (by rintro _ _ ⟨rfl, rfl⟩; exact ⟨_, _, rfl, rfl, ⟨⟨rfl, rfl, rfl, trivial⟩, ⟨rfl, rfl, rfl, rfl, rfl, rfl, rfl, rfl, trivial⟩, rfl⟩⟩) rfl) rfl rfl ?_
        refine GL.freeze ⟨[(8, .val (.bool false)), (18, .yld 1001), (20, .fr (.sl (List.length r3) (encs r3)))], [(503, ⟨3, true, false, true, Enc.sz Int, encs l00, none⟩), (505, ⟨3, true, false, true, Enc.sz Int, encs l000, none⟩), (1000, ⟨3, true, false, true, Enc.sz Int, encs l0, none⟩), (1001, (loopB [.loc 1002 0, .loc 1004 0, .loc 1006 0] (points_Ends_y3_lp fn (jmpc 0 Jp.go)))), (1002, ⟨22, false, false, false, 0, [.osl 503 (Enc.sz Int) 0 (List.length l00)], none⟩), (1004, ⟨22, false, false, false, 0, [.osl 505 (Enc.sz Int) 0 (List.length l000)], none⟩), (1006, ⟨4, false, false, false, 0, [.val (.bool c0)], none⟩)], []⟩ ⟨⟨_, rfl, rfl, rfl, rfl, rfl, rfl, rfl, .inl ⟨rfl, rfl⟩⟩, ⟨_, rfl, rfl, rfl, rfl, rfl, rfl, rfl, .inl ⟨rfl, rfl⟩⟩, ⟨_, rfl, rfl, rfl, rfl, rfl, rfl, rfl, .inl ⟨rfl, rfl⟩⟩, ⟨_, rfl, rfl, rfl, rfl, rfl, rfl, rfl, .inr ⟨rfl, ⟨.inr rfl, .inr rfl, .inr rfl, trivial⟩⟩⟩, ⟨_, rfl, rfl, rfl, rfl, rfl, rfl, rfl, .inr ⟨rfl, ⟨.inr rfl, trivial⟩⟩⟩, ⟨_, rfl, rfl, rfl, rfl, rfl, rfl, rfl, .inr ⟨rfl, ⟨.inr rfl, trivial⟩⟩⟩, ⟨_, rfl, rfl, rfl, rfl, rfl, rfl, rfl, .inr ⟨rfl, ⟨.inr rfl, trivial⟩⟩⟩, trivial⟩ ⟨⟨_, rfl, .inr rfl⟩, ⟨_, rfl, .inr rfl⟩, ⟨_, rfl, .inl (fz_vec (α := Int) (l := r3) rfl rfl rfl rfl rfl rfl)⟩, trivial⟩ ?_
        refine GL.yld [1002, 503, 1004, 505, 1006] [1002, 503, 1004, 505, 1006] rfl rfl rfl rfl rfl rfl rfl rfl rfl rfl rfl rfl rfl (points_Ends_y3_ok fn fu r3 l00 l000 c0 (o4, o5, o6) hr7) rfl rfl ?_
        rintro _ _ ⟨rfl, rfl⟩
        refine ⟨_, rfl, _, rfl, rfl, _, rfl, ?_⟩
        refine GL.weak ⟨[(8, .val (.bool false)), (21, .val (.bool true))], [(503, ⟨3, true, false, true, Enc.sz Int, encs o4, none⟩), (505, ⟨3, true, false, true, Enc.sz Int, encs o5, none⟩), (1000, ⟨3, true, false, true, Enc.sz Int, encs l0, none⟩), (1001, (loopB [.loc 1002 0, .loc 1004 0, .loc 1006 0] (points_Ends_y3_lp fn (jmpc 0 Jp.go)))), (1002, ⟨22, false, false, false, 0, [.osl 503 (Enc.sz Int) 0 (List.length o4)], none⟩), (1004, ⟨22, false, false, false, 0, [.osl 505 (Enc.sz Int) 0 (List.length o5)], none⟩), (1006, ⟨4, false, false, false, 0, [.val (.bool o6)], none⟩)], []⟩ ⟨⟨rfl, rfl, trivial⟩, ⟨rfl, rfl, rfl, rfl, rfl, rfl, rfl, trivial⟩, rfl⟩ ?_
        refine GL.py (PY.assign rfl) rfl rfl ?_
        refine GL.nil ?_
        change GW _ _ _ _ _ _
        refine GW.ret ?_
        have H := Option.some.inj H
        subst H
        exact RetQ.mk (.inl rfl) [.val (.bool true)] _ [(1000, ⟨3, true, false, true, Enc.sz Int, encs l0, none⟩), (1001, (loopB [.loc 1002 0, .loc 1004 0, .loc 1006 0] (points_Ends_y3_lp fn (jmpc 0 Jp.go)))), (1002, ⟨22, false, false, false, 0, [.osl 503 (Enc.sz Int) 0 (List.length o4)], none⟩), (503, ⟨3, true, false, true, Enc.sz Int, encs o4, none⟩), (1004, ⟨22, false, false, false, 0, [.osl 505 (Enc.sz Int) 0 (List.length o5)], none⟩), (505, ⟨3, true, false, true, Enc.sz Int, encs o5, none⟩), (1006, ⟨4, false, false, false, 0, [.val (.bool o6)], none⟩)] ⟨Res.tmp rfl, trivial⟩ ⟨rfl, rfl, rfl, rfl, rfl, rfl, rfl, trivial⟩ rfl ⟨rfl, rfl⟩
      · have H := condF hc2 H
        refine GW.skip ?_
        change GW _ _ _ _ _ _
        refine GW.seq ?_
        refine GW.seq ?_
        obtain ⟨x8, hx8, H⟩ := bind_some H
        refine GW.region ?_
        refine GL.py (PY.move rfl) rfl rfl ?_
        refine GL.py (PY.move rfl) rfl rfl ?_
        refine GL.py (PY.index rfl rfl rfl (idx_spec hx8).1 (idx_spec hx8).2.1 Try.underlying22 Try.sizeOf3) rfl rfl ?_
        refine GL.e0 (ET.set (α := Int) (x := 0) (W := [1000]) rfl rfl rfl rfl rfl rfl rfl rfl rfl (idx_spec hx8).1 (idx_spec hx8).2.1 Try.sizeOf3 rfl) rfl ?_
        refine GL.resl 1 rfl (show List.length l0 = List.length (List.set l0 (Int.toNat k0) 0) from List.length_set.symm) ?_
        refine GL.resl 22 rfl (show List.length l0 = List.length (List.set l0 (Int.toNat k0) 0) from List.length_set.symm) ?_
        refine GL.nil ?_
        change GW _ _ _ _ _ _
        refine GW.block ?_
        obtain ⟨e7, he7, Hb, Hr⟩ := bindE_some H
        refine GW.weak ((fun (q : (List Int) × (List Int) × (List Int) × Bool) => (⟨[(1, .osl 1000 (Enc.sz Int) 0 (List.length q.2.2.1)), (2, .val (.int .i64 k0)), (3, .yld 1001), (4, .loc 0 0)], [(0, ⟨25, false, true, false, 0, [.sl (List.length p0.Box) (encs p0.Box), .sl (List.length p0.Rows) (encs p0.Rows)], none⟩), (503, ⟨3, true, false, true, Enc.sz Int, encs q.1, none⟩), (505, ⟨3, true, false, true, Enc.sz Int, encs q.2.1, none⟩), (1000, ⟨3, true, false, true, Enc.sz Int, encs q.2.2.1, none⟩), (1001, (loopB [.loc 1002 0, .loc 1004 0, .loc 1006 0] (points_Ends_y3_lp fn (jmpc 0 Jp.go)))), (1002, ⟨22, false, false, false, 0, [.osl 503 (Enc.sz Int) 0 (List.length q.1)], none⟩), (1004, ⟨22, false, false, false, 0, [.osl 505 (Enc.sz Int) 0 (List.length q.2.1)], none⟩), (1006, ⟨4, false, false, false, 0, [.val (.bool q.2.2.2)], none⟩)], []⟩ : St)) (l00, l000, List.set l0 (Int.toNat k0) 0, c0)) ⟨⟨rfl, rfl, rfl, rfl, trivial⟩, ⟨rfl, rfl, rfl, rfl, rfl, rfl, rfl, rfl, trivial⟩, rfl⟩ ?_
        refine GW.loopF (fun (q : (List Int) × (List Int) × (List Int) × Bool) => (⟨[(1, .osl 1000 (Enc.sz Int) 0 (List.length q.2.2.1)), (2, .val (.int .i64 k0)), (3, .yld 1001), (4, .loc 0 0)], [(0, ⟨25, false, true, false, 0, [.sl (List.length p0.Box) (encs p0.Box), .sl (List.length p0.Rows) (encs p0.Rows)], none⟩), (503, ⟨3, true, false, true, Enc.sz Int, encs q.1, none⟩), (505, ⟨3, true, false, true, Enc.sz Int, encs q.2.1, none⟩), (1000, ⟨3, true, false, true, Enc.sz Int, encs q.2.2.1, none⟩), (1001, (loopB [.loc 1002 0, .loc 1004 0, .loc 1006 0] (points_Ends_y3_lp fn (jmpc 0 Jp.go)))), (1002, ⟨22, false, false, false, 0, [.osl 503 (Enc.sz Int) 0 (List.length q.1)], none⟩), (1004, ⟨22, false, false, false, 0, [.osl 505 (Enc.sz Int) 0 (List.length q.2.1)], none⟩), (1006, ⟨4, false, false, false, 0, [.val (.bool q.2.2.2)], none⟩)], []⟩ : St)) (QJ (.exit 0) (fun (q : (List Int) × (List Int) × (List Int) × Bool) => (⟨[], [(503, ⟨3, true, false, true, Enc.sz Int, encs q.1, none⟩), (505, ⟨3, true, false, true, Enc.sz Int, encs q.2.1, none⟩), (1000, ⟨3, true, false, true, Enc.sz Int, encs q.2.2.1, none⟩), (1001, (loopB [.loc 1002 0, .loc 1004 0, .loc 1006 0] (points_Ends_y3_lp fn (jmpc 0 Jp.go)))), (1002, ⟨22, false, false, false, 0, [.osl 503 (Enc.sz Int) 0 (List.length q.1)], none⟩), (1004, ⟨22, false, false, false, 0, [.osl 505 (Enc.sz Int) 0 (List.length q.2.1)], none⟩), (1006, ⟨4, false, false, false, 0, [.val (.bool q.2.2.2)], none⟩)], []⟩ : St)) (fun r2 _ s2 => RetQ Try.prog Try.f39 (fun g st => g = .val (.bool r2.1) ∧ st = [(1000, ⟨3, true, false, true, Enc.sz Int, encs r2.2.1, none⟩), (1001, (loopB [.loc 1002 0, .loc 1004 0, .loc 1006 0] (points_Ends_y3_lp fn (jmpc 0 Jp.go)))), (1002, ⟨22, false, false, false, 0, [.osl 503 (Enc.sz Int) 0 (List.length r2.2.2.1)], none⟩), (503, ⟨3, true, false, true, Enc.sz Int, encs r2.2.2.1, none⟩), (1004, ⟨22, false, false, false, 0, [.osl 505 (Enc.sz Int) 0 (List.length r2.2.2.2.1)], none⟩), (505, ⟨3, true, false, true, Enc.sz Int, encs r2.2.2.2.1, none⟩), (1006, ⟨4, false, false, false, 0, [.val (.bool r2.2.2.2.2)], none⟩)]) .ret s2)) he7 (fun x o hb => ?_) (fun ex s2 _ hx => ?_)
        · obtain ⟨l9, l10, x11, c12⟩ := x
          have H := hb
          unfold F.points_walk_8_l1 at H
          try dsimp only at H
          refine GW.weak ⟨[(1, .osl 1000 (Enc.sz Int) 0 (List.length x11)), (2, .val (.int .i64 k0)), (3, .yld 1001), (4, .loc 0 0)], [(0, ⟨25, false, true, false, 0, [.sl (List.length p0.Box) (encs p0.Box), .sl (List.length p0.Rows) (encs p0.Rows)], none⟩), (503, ⟨3, true, false, true, Enc.sz Int, encs l9, none⟩), (505, ⟨3, true, false, true, Enc.sz Int, encs l10, none⟩), (1000, ⟨3, true, false, true, Enc.sz Int, encs x11, none⟩), (1001, (loopB [.loc 1002 0, .loc 1004 0, .loc 1006 0] (points_Ends_y3_lp fn (jmpc 0 Jp.go)))), (1002, ⟨22, false, false, false, 0, [.osl 503 (Enc.sz Int) 0 (List.length l9)], none⟩), (1004, ⟨22, false, false, false, 0, [.osl 505 (Enc.sz Int) 0 (List.length l10)], none⟩), (1006, ⟨4, false, false, false, 0, [.val (.bool c12)], none⟩)], []⟩ ⟨⟨rfl, rfl, rfl, rfl, trivial⟩, ⟨rfl, rfl, rfl, rfl, rfl, rfl, rfl, rfl, trivial⟩, rfl⟩ ?_
          refine GW.seq ?_
          refine GW.seq ?_
          obtain ⟨x17, hx17, H⟩ := bind_some H
          obtain ⟨x18, hx18, H⟩ := bind_some H
          refine GW.draws [] mixed ?_
          change GH1 _ _ _ _ _ _ 10 _ _
          refine GH1.take 0 rfl (by decide +kernel) (by decide +kernel) (by decide +kernel) rfl rfl (by decide) ((PY.move rfl).yield _) ?_
          refine GH1.take 1 rfl (by decide +kernel) (by decide +kernel) (by decide +kernel) rfl rfl (by decide) ((PY.move rfl).yield _) ?_
          refine GH1.take 2 rfl (by decide +kernel) (by decide +kernel) (by decide +kernel) rfl rfl (by decide) ((PY.index rfl rfl rfl (idx_spec hx17).1 (idx_spec hx17).2.1 Try.underlying22 Try.sizeOf3).yield _) ?_
          refine GH1.take 3 rfl (by decide +kernel) (by decide +kernel) (by decide +kernel) rfl rfl (by decide) (YT.own (α := Int) rfl rfl rfl hx17 rfl Try.isAgg3 rfl rfl) ?_
          refine GH1.take 4 rfl (by decide +kernel) (by decide +kernel) (by decide +kernel) rfl rfl (by decide) ((PY.field rfl rfl Try.underlying25 rfl Try.sizeOf22 (by decide)).yield _) ?_
          refine GH1.take 5 rfl (by decide +kernel) (by decide +kernel) (by decide +kernel) rfl rfl (by decide) (YL.loadN rfl rfl rfl Try.isAgg22 rfl rfl) ?_
          refine GH1.take 6 rfl (by decide +kernel) (by decide +kernel) (by decide +kernel) rfl rfl (by decide) ((PY.move rfl).yield _) ?_
          refine GH1.take 7 rfl (by decide +kernel) (by decide +kernel) (by decide +kernel) rfl rfl (by decide) ((PY.index rfl rfl rfl (idx_spec hx18).1 (idx_spec hx18).2.1 Try.underlying22 Try.sizeOf3).yield _) ?_
          refine GH1.take 8 rfl (by decide +kernel) (by decide +kernel) (by decide +kernel) rfl rfl (by decide) (YT.elt (α := Int) rfl hx18 rfl Try.isAgg3) ?_
          refine GH1.take 9 rfl (by decide +kernel) (by decide +kernel) (by decide +kernel) rfl rfl (by decide) ((PY.bin rfl rfl rfl).yield _) ?_
          refine GH1.done (by decide +kernel) ?_
          change GW _ _ _ _ _ _
          refine GW.cond rfl (fun hc3 => ?_) (fun hc3 => ?_)
          · have H := condT hc3 H
            refine GW.skip ?_
            change GW _ _ _ _ _ _
            refine GW.seq ?_
            refine GW.block ?_
            refine GW.seq ?_
            obtain ⟨r24, hr24, H⟩ := bind_some H
            obtain ⟨o19, o20, o21, o22, o23⟩ := r24
            obtain ⟨_, hl4, H⟩ := bind_some H
            replace hl4 := chk_spec hl4
            refine GW.region ?_
            refine GL.y (YL.loadAgg rfl rfl rfl Try.isAgg25 Try.sizeOf25 (Nat.le_of_ble_eq_true rfl) rfl) rfl rfl ?_
            refine GL.py (PY.move rfl) rfl rfl ?_
            refine GL.py (PY.move rfl) rfl rfl ?_
            refine GL.py (PY.bin rfl rfl rfl) rfl rfl ?_
            refine GL.py (PY.move rfl) rfl rfl ?_
            refine GL.e1 (EF.lend (s1 := ⟨[(1, .osl 1000 (Enc.sz Int) 0 (List.length x11)), (2, .val (.int .i64 k0)), (3, .yld 1001), (4, .loc 0 0), (46, .val (.bool o19))], [(0, ⟨25, false, true, false, 0, [.sl (List.length p0.Box) (encs p0.Box), .sl (List.length p0.Rows) (encs p0.Rows)], none⟩), (503, ⟨3, true, false, true, Enc.sz Int, encs o21, none⟩), (505, ⟨3, true, false, true, Enc.sz Int, encs o22, none⟩), (1000, ⟨3, true, false, true, Enc.sz Int, encs o20, none⟩), (1001, (loopB [.loc 1002 0, .loc 1004 0, .loc 1006 0] (points_Ends_y3_lp fn (jmpc 0 Jp.go)))), (1002, ⟨22, false, false, false, 0, [.osl 503 (Enc.sz Int) 0 (List.length o21)], none⟩), (1004, ⟨22, false, false, false, 0, [.osl 505 (Enc.sz Int) 0 (List.length o22)], none⟩), (1006, ⟨4, false, false, false, 0, [.val (.bool o23)], none⟩)], []⟩) (W := [1000, 1001, 1002, 503, 1004, 505, 1006]) [1000, 1001, 1002, 503, 1004, 505, 1006] false [1000, 1001, 1002, 503, 1004, 505, 1006] Try.call39 rfl rfl rfl rfl (ih p0 (IntKind.i64.wrap (k0 + 1)) x11 l9 l10 c12 (o19, o20, o21, o22, o23) hr24) (by rintro _ _ ⟨rfl, rfl⟩; exact ⟨_, _, rfl, rfl, ⟨⟨rfl, rfl, rfl, rfl, rfl, trivial⟩, ⟨rfl, rfl, rfl, rfl, rfl, rfl, rfl, rfl, trivial⟩, rfl⟩⟩) rfl) rfl rfl ?_
            refine GL.resl 1 rfl hl4 ?_
            refine GL.py (PY.un rfl rfl) rfl rfl ?_
            refine GL.nil ?_
            change GW _ _ _ _ _ _
            refine GW.cond rfl (fun hc6 => ?_) (fun hc6 => ?_)
            · have H := condT hc6 H
              refine GW.seq ?_
              refine GW.region ?_
              refine GL.py (PY.assign rfl) rfl rfl ?_
              refine GL.nil ?_
              change GW _ _ _ _ _ _
              refine GW.ret ?_
              cases H
              exact And.intro ret_ne (And.intro rfl (RetQ.mk (.inl rfl) [.val (.bool false)] _ [(1000, ⟨3, true, false, true, Enc.sz Int, encs o20, none⟩), (1001, (loopB [.loc 1002 0, .loc 1004 0, .loc 1006 0] (points_Ends_y3_lp fn (jmpc 0 Jp.go)))), (1002, ⟨22, false, false, false, 0, [.osl 503 (Enc.sz Int) 0 (List.length o21)], none⟩), (503, ⟨3, true, false, true, Enc.sz Int, encs o21, none⟩), (1004, ⟨22, false, false, false, 0, [.osl 505 (Enc.sz Int) 0 (List.length o22)], none⟩), (505, ⟨3, true, false, true, Enc.sz Int, encs o22, none⟩), (1006, ⟨4, false, false, false, 0, [.val (.bool o23)], none⟩)] ⟨Res.tmp rfl, trivial⟩ ⟨rfl, rfl, rfl, rfl, rfl, rfl, rfl, trivial⟩ rfl ⟨rfl, rfl⟩))
            · have H := condF hc6 H
              refine GW.skip ?_
              change GW _ _ _ _ _ _
              obtain ⟨x25, hx25, H⟩ := bind_some H
              refine GW.region ?_
              refine GL.py (PY.move rfl) rfl rfl ?_
              refine GL.py (PY.move rfl) rfl rfl ?_
              refine GL.py (PY.index rfl rfl rfl (idx_spec hx25).1 (idx_spec hx25).2.1 Try.underlying22 Try.sizeOf3) rfl rfl ?_
              refine GL.y (YT.own (α := Int) rfl rfl rfl hx25 rfl Try.isAgg3 rfl rfl) rfl rfl ?_
              refine GL.py (PY.bin rfl rfl rfl) rfl rfl ?_
              refine GL.py (PY.index rfl rfl rfl (idx_spec hx25).1 (idx_spec hx25).2.1 Try.underlying22 Try.sizeOf3) rfl rfl ?_
              refine GL.e0 (ET.set (α := Int) (x := IntKind.i64.wrap (x25 + 1)) (W := [1000]) rfl rfl rfl rfl rfl rfl rfl rfl rfl (idx_spec hx25).1 (idx_spec hx25).2.1 Try.sizeOf3 rfl) rfl ?_
              refine GL.resl 1 rfl (show List.length o20 = List.length (List.set o20 (Int.toNat k0) (IntKind.i64.wrap (x25 + 1))) from List.length_set.symm) ?_
              refine GL.resl 35 rfl (show List.length o20 = List.length (List.set o20 (Int.toNat k0) (IntKind.i64.wrap (x25 + 1))) from List.length_set.symm) ?_
              refine GL.nil ?_
              cases H
              exact And.intro rfl ⟨⟨rfl, rfl, rfl, rfl, trivial⟩, ⟨rfl, rfl, rfl, rfl, rfl, rfl, rfl, rfl, trivial⟩, rfl⟩
          · have H := condF hc3 H
            refine GW.exit ?_
            cases H
            exact And.intro exit_ne (And.intro rfl ⟨trivial, ⟨rfl, rfl, rfl, rfl, rfl, rfl, rfl, trivial⟩, rfl⟩)
        · cases e7 with
          | ret r2 =>
            obtain ⟨rfl, hx⟩ := hx
            have H := Hr r2 rfl
            subst H
            exact hx
          | brk b2 =>
            obtain ⟨rfl, hs⟩ := hx
            have H := Hb b2 rfl
            obtain ⟨l13, l14, l15, c16⟩ := b2
            change GW _ _ _ _ _ _
            refine GW.weak _ hs ?_
            refine GW.weak ⟨[], [(503, ⟨3, true, false, true, Enc.sz Int, encs l13, none⟩), (505, ⟨3, true, false, true, Enc.sz Int, encs l14, none⟩), (1000, ⟨3, true, false, true, Enc.sz Int, encs l15, none⟩), (1001, (loopB [.loc 1002 0, .loc 1004 0, .loc 1006 0] (points_Ends_y3_lp fn (jmpc 0 Jp.go)))), (1002, ⟨22, false, false, false, 0, [.osl 503 (Enc.sz Int) 0 (List.length l13)], none⟩), (1004, ⟨22, false, false, false, 0, [.osl 505 (Enc.sz Int) 0 (List.length l14)], none⟩), (1006, ⟨4, false, false, false, 0, [.val (.bool c16)], none⟩)], []⟩ ⟨trivial, ⟨rfl, rfl, rfl, rfl, rfl, rfl, rfl, trivial⟩, rfl⟩ ?_
            change GW _ _ _ _ _ _
            refine GW.seq ?_
            refine GW.region ?_
            refine GL.py (PY.assign rfl) rfl rfl ?_
            refine GL.nil ?_
            change GW _ _ _ _ _ _
            refine GW.ret ?_
            have H := Option.some.inj H
            subst H
            exact RetQ.mk (.inl rfl) [.val (.bool true)] _ [(1000, ⟨3, true, false, true, Enc.sz Int, encs l15, none⟩), (1001, (loopB [.loc 1002 0, .loc 1004 0, .loc 1006 0] (points_Ends_y3_lp fn (jmpc 0 Jp.go)))), (1002, ⟨22, false, false, false, 0, [.osl 503 (Enc.sz Int) 0 (List.length l13)], none⟩), (503, ⟨3, true, false, true, Enc.sz Int, encs l13, none⟩), (1004, ⟨22, false, false, false, 0, [.osl 505 (Enc.sz Int) 0 (List.length l14)], none⟩), (505, ⟨3, true, false, true, Enc.sz Int, encs l14, none⟩), (1006, ⟨4, false, false, false, 0, [.val (.bool c16)], none⟩)] ⟨Res.tmp rfl, trivial⟩ ⟨rfl, rfl, rfl, rfl, rfl, rfl, rfl, trivial⟩ rfl ⟨rfl, rfl⟩


end Go.Proofs.Ytllnemgkfdgljaa
