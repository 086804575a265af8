/-
  Each function returns what its partial function of plain data says, where that says something (printed by wip/tools/gen.py).
-/
import Derived.Test.YtllnemgkfdgljaaPvV
import Derived.Test.YtllnemgkfdgljaaProg
set_option linter.unusedSectionVars false
set_option linter.unusedSimpArgs false
namespace Go.Proofs.Ytllnemgkfdgljaa
open Go.AM
set_option maxHeartbeats 4000000
set_option maxRecDepth 20000
set_option linter.unusedVariables false


theorem points_All_1_7_ok (fn : FuncId) (fu : Nat) (a0 : SPoints) (l0 : (List Int)) (l00 : (List Int)) (c0 : Bool) (r : ((List Int) × (List Int) × Bool)) (H : F.points_All_1_7 fu a0 l0 l00 c0 = some r) : GM Try.prog 38 [.yld 1000, .ptr [.sl (List.length a0.Box) (encs a0.Box), .sl (List.length a0.Rows) (encs a0.Rows)]] [(1000, (loopB [.loc 1001 0, .loc 1003 0, .loc 1005 0] (points_Ends_y3_lp fn (jmpc 0 Jp.go)))), (1001, ⟨22, false, false, false, 0, [.osl 1002 (Enc.sz Int) 0 (List.length l0)], none⟩), (1002, ⟨3, true, false, false, Enc.sz Int, encs l0, none⟩), (1003, ⟨22, false, false, false, 0, [.osl 1004 (Enc.sz Int) 0 (List.length l00)], none⟩), (1004, ⟨3, true, false, false, Enc.sz Int, encs l00, none⟩), (1005, ⟨4, false, false, false, 0, [.val (.bool c0)], none⟩)] (fun g st => g = .tup [] ∧ st = [(1000, (loopB [.loc 1001 0, .loc 1003 0, .loc 1005 0] (points_Ends_y3_lp fn (jmpc 0 Jp.go)))), (1001, ⟨22, false, false, false, 0, [.osl 502 (Enc.sz Int) 0 (List.length r.1)], none⟩), (502, ⟨3, true, false, true, Enc.sz Int, encs r.1, none⟩), (1003, ⟨22, false, false, false, 0, [.osl 504 (Enc.sz Int) 0 (List.length r.2.1)], none⟩), (504, ⟨3, true, false, true, Enc.sz Int, encs r.2.1, none⟩), (1005, ⟨4, false, false, false, 0, [.val (.bool r.2.2)], none⟩)]) := by
  unfold F.points_All_1_7 at H
  refine GM.of (N := 13) Try.func38 rfl rfl rfl (fun cx hro => ?_)
  change GW _ _ _ _ _ _
  refine GW.move 1002 502 rfl rfl ?_
  refine GW.refresh (α := Int) (l := l0) 502 rfl rfl rfl ?_
  refine GW.move 1004 504 rfl rfl ?_
  refine GW.refresh (α := Int) (l := l00) 504 rfl rfl rfl ?_
  refine GW.seq ?_
  obtain ⟨r1, hr1, H⟩ := bind_some H
  refine GW.region ?_
  refine GL.y (YL.ptrAgg rfl (Nat.le_of_ble_eq_true rfl) Try.isAgg25 Try.sizeOf25) rfl rfl ?_
  refine GL.e (W := []) (EF.call 4 Try.call17 rfl (mapO_cons rfl rfl) (points_Wrong_ok fu a0 r1 hr1) (by rintro _ _ ⟨rfl, rfl⟩; rfl)) rfl rfl ?_
  rintro _ ⟨_, _, ⟨rfl, rfl⟩, rfl⟩
  refine GL.py (PY.bin rfl rfl rfl) rfl rfl ?_
  refine GL.nil ?_
  change GW _ _ _ _ _ _
  refine GW.cond rfl (fun hc1 => ?_) (fun hc1 => ?_)
  · have H := condT hc1 H
    obtain ⟨_, hm2, H⟩ := bind_some H
    replace hm2 := chk_spec hm2
    obtain ⟨r8, hr8, H⟩ := bind_some H
    obtain ⟨o3, o4, o5, o6, o7⟩ := r8
    obtain ⟨_, hl3, H⟩ := bind_some H
    replace hl3 := chk_spec hl3
    refine GW.draws [4, 502, 504, 1000, 1001, 1003, 1005] mixed ?_
    change GH1 _ _ _ _ _ _ 7 _ _
    refine GH1.take 0 rfl (by decide +kernel) (by decide +kernel) (by decide +kernel) rfl rfl (by decide) (YL.ptrAgg rfl (Nat.le_of_ble_eq_true rfl) Try.isAgg25 Try.sizeOf25) ?_
    refine GH1.take 1 rfl (by decide +kernel) (by decide +kernel) (by decide +kernel) rfl rfl (by decide) ((PY.field rfl rfl Try.underlying25 rfl Try.sizeOf22 (by decide)).yield _) ?_
    refine GH1.take 2 rfl (by decide +kernel) (by decide +kernel) (by decide +kernel) rfl rfl (by decide) (YL.ptr rfl rfl Try.isAgg22) ?_
    refine GH1.take 3 rfl (by decide +kernel) (by decide +kernel) (by decide +kernel) rfl rfl (by decide) ((PY.len rfl rfl Try.underlying22).yield _) ?_
    refine GH1.take 5 rfl (by decide +kernel) (by decide +kernel) (by decide +kernel) rfl rfl (by decide) ((PY.move rfl).yield _) ?_
    refine GH1.later ?_
    refine GH2.one 4 (by decide +kernel) rfl rfl (fun d e => by cases e; decide) (ET.make (α := Int) (x := (0 : Int)) 4 rfl rfl Try.underlying22 info3 rfl rfl hm2.1 hm2.2.1 hm2.2.2 rfl) ?_
    rintro _ rfl
    refine GH2.one 6 (by decide +kernel) rfl rfl (fun d e => by cases e; decide) (EF.lend (s1 := ⟨[(0, .yld 1000), (1, .ptr [.sl (List.length a0.Box) (encs a0.Box), .sl (List.length a0.Rows) (encs a0.Rows)]), (3, .agg [.sl (List.length a0.Box) (encs a0.Box), .sl (List.length a0.Rows) (encs a0.Rows)]), (4, .val (.int .i64 r1)), (5, .val (.bool (r1 == 0))), (6, .agg [.sl (List.length a0.Box) (encs a0.Box), .sl (List.length a0.Rows) (encs a0.Rows)]), (7, .ptr [.sl (List.length a0.Box) (encs a0.Box), .sl (List.length a0.Rows) (encs a0.Rows)]), (8, .sl (List.length a0.Box) (encs a0.Box)), (9, .val (.int .i64 (List.length a0.Box : Int))), (10, .osl 4 (Enc.sz Int) 0 (List.length (List.replicate (Int.toNat (List.length a0.Box : Int)) (0 : Int)))), (11, .yld 1000), (12, .val (.bool o3))], [(4, ⟨3, true, true, true, Enc.sz Int, encs o4, none⟩), (502, ⟨3, true, false, true, Enc.sz Int, encs o5, none⟩), (504, ⟨3, true, false, true, Enc.sz Int, encs o6, none⟩), (1000, (loopB [.loc 1001 0, .loc 1003 0, .loc 1005 0] (points_Ends_y3_lp fn (jmpc 0 Jp.go)))), (1001, ⟨22, false, false, false, 0, [.osl 502 (Enc.sz Int) 0 (List.length o5)], none⟩), (1003, ⟨22, false, false, false, 0, [.osl 504 (Enc.sz Int) 0 (List.length o6)], none⟩), (1005, ⟨4, false, false, false, 0, [.val (.bool o7)], none⟩)], []⟩) [4, 1000, 1001, 502, 1003, 504, 1005] false [4, 1000, 1001, 502, 1003, 504, 1005] Try.call39 rfl rfl rfl rfl (points_walk_8_ok fn fu a0 0 (List.replicate (Int.toNat (List.length a0.Box : Int)) (0 : Int)) l0 l00 c0 (o3, o4, o5, o6, o7) hr8) (by rintro _ _ ⟨rfl, rfl⟩; exact ⟨_, _, rfl, rfl, ⟨⟨rfl, rfl, rfl, rfl, rfl, rfl, rfl, rfl, rfl, rfl, rfl, rfl, trivial⟩, ⟨rfl, rfl, rfl, rfl, rfl, rfl, rfl, trivial⟩, rfl⟩⟩) rfl) ?_
    rintro _ rfl
    refine GH2.resl 10 rfl hl3 ?_
    refine GH2.done (by decide +kernel) ?_
    have H := Option.some.inj H
    subst H
    exact RetQ.mk (.inr rfl) [] _ [(1000, (loopB [.loc 1001 0, .loc 1003 0, .loc 1005 0] (points_Ends_y3_lp fn (jmpc 0 Jp.go)))), (1001, ⟨22, false, false, false, 0, [.osl 502 (Enc.sz Int) 0 (List.length o5)], none⟩), (502, ⟨3, true, false, true, Enc.sz Int, encs o5, none⟩), (1003, ⟨22, false, false, false, 0, [.osl 504 (Enc.sz Int) 0 (List.length o6)], none⟩), (504, ⟨3, true, false, true, Enc.sz Int, encs o6, none⟩), (1005, ⟨4, false, false, false, 0, [.val (.bool o7)], none⟩)] trivial ⟨rfl, rfl, rfl, rfl, rfl, rfl, trivial⟩ rfl ⟨rfl, rfl⟩
  · have H := condF hc1 H
    refine GW.skip ?_
    have H := Option.some.inj H
    subst H
    exact RetQ.mk (.inr rfl) [] _ [(1000, (loopB [.loc 1001 0, .loc 1003 0, .loc 1005 0] (points_Ends_y3_lp fn (jmpc 0 Jp.go)))), (1001, ⟨22, false, false, false, 0, [.osl 502 (Enc.sz Int) 0 (List.length l0)], none⟩), (502, ⟨3, true, false, true, Enc.sz Int, encs l0, none⟩), (1003, ⟨22, false, false, false, 0, [.osl 504 (Enc.sz Int) 0 (List.length l00)], none⟩), (504, ⟨3, true, false, true, Enc.sz Int, encs l00, none⟩), (1005, ⟨4, false, false, false, 0, [.val (.bool c0)], none⟩)] trivial ⟨rfl, rfl, rfl, rfl, rfl, rfl, trivial⟩ rfl ⟨rfl, rfl⟩

theorem points_Ends_ok (fu : Nat) (p0 : SPoints) (r : ((List Int) × (List Int) × Int)) (H : F.points_Ends fu p0 = some r) : GM Try.prog 18 [.agg [.sl (List.length p0.Box) (encs p0.Box), .sl (List.length p0.Rows) (encs p0.Rows)]] [] (fun g st => g = .tup [.fr (.sl (List.length r.1) (encs r.1)), .fr (.sl (List.length r.2.1) (encs r.2.1)), .val (.int .i64 r.2.2)] ∧ st = []) := by
  unfold F.points_Ends at H
  refine GM.of (N := 54) Try.func18 rfl rfl rfl (fun cx hro => ?_)
  change GW _ _ _ _ _ _
  refine GW.seq ?_
  refine GW.region ?_
  refine GL.e1 (W := []) (EF.box 0 rfl rfl rfl) rfl rfl ?_
  refine GL.e1 (W := []) (EF.alloc 1 Try.zeroValue22 rfl) rfl rfl ?_
  refine GL.e1 (W := []) (EF.alloc 2 Try.zeroValue22 rfl) rfl rfl ?_
  refine GL.py (PY.assign rfl) rfl rfl ?_
  refine GL.nil ?_
  change GW _ _ _ _ _ _
  refine GW.seq ?_
  refine GW.seq ?_
  obtain ⟨r1, hr1, H⟩ := bind_some H
  refine GW.region ?_
  refine GL.y (YL.loadAgg rfl rfl rfl Try.isAgg25 Try.sizeOf25 (Nat.le_of_ble_eq_true rfl) rfl) rfl rfl ?_
  refine GL.e (W := []) (EF.call 4 Try.call17 rfl (mapO_cons rfl rfl) (points_Wrong_ok fu p0 r1 hr1) (by rintro _ _ ⟨rfl, rfl⟩; rfl)) rfl rfl ?_
  rintro _ ⟨_, _, ⟨rfl, rfl⟩, rfl⟩
  refine GL.py (PY.assign rfl) rfl rfl ?_
  refine GL.nil ?_
  change GW _ _ _ _ _ _
  refine GW.seq ?_
  refine GW.region ?_
  refine GL.py (PY.move rfl) rfl rfl ?_
  refine GL.py (PY.bin rfl rfl rfl) rfl rfl ?_
  refine GL.nil ?_
  change GW _ _ _ _ _ _
  refine GW.cond rfl (fun hc1 => ?_) (fun hc1 => ?_)
  · have H := condT hc1 H
    refine GW.seq ?_
    refine GW.region ?_
    refine GL.py (PY.move rfl) rfl rfl ?_
    refine GL.e0 (EF.storeN (W := [1]) (cells' := [.val (.slice none 0 0)]) rfl rfl rfl rfl rfl rfl rfl rfl Try.sizeOf22 (Nat.le_of_ble_eq_true rfl) rfl rfl) rfl ?_
    refine GL.e0 (EF.storeN (W := [2]) (cells' := [.val (.slice none 0 0)]) rfl rfl rfl rfl rfl rfl rfl rfl Try.sizeOf22 (Nat.le_of_ble_eq_true rfl) rfl rfl) rfl ?_
    refine GL.py (PY.assign rfl) rfl rfl ?_
    refine GL.nil ?_
    change GW _ _ _ _ _ _
    refine GW.ret ?_
    have H := Option.some.inj H
    subst H
    exact RetQ.mk (.inl rfl) [.val (.slice none 0 0), .val (.slice none 0 0), .val (.int .i64 r1)] _ [] ⟨Res.cell rfl rfl rfl Try.isAgg22 rfl, Res.cell rfl rfl rfl Try.isAgg22 rfl, Res.tmp rfl, trivial⟩ trivial rfl ⟨rfl, rfl⟩
  · have H := condF hc1 H
    refine GW.skip ?_
    change GW _ _ _ _ _ _
    refine GW.seq ?_
    refine GW.region ?_
    refine GL.e1 (W := []) (EF.alloc 3 Try.zeroValue4 rfl) rfl rfl ?_
    refine GL.e0 (EF.storeN (W := [3]) (cells' := [.val (.bool false)]) rfl rfl rfl rfl rfl rfl rfl rfl Try.sizeOf4 (Nat.le_of_ble_eq_true rfl) rfl rfl) rfl ?_
    refine GL.nil ?_
    change GW _ _ _ _ _ _
    refine GW.seq ?_
    refine GW.seq ?_
    obtain ⟨r3, hr3, H⟩ := bind_some H
    refine GW.region ?_
    refine GL.y (YL.loadAgg rfl rfl rfl Try.isAgg25 Try.sizeOf25 (Nat.le_of_ble_eq_true rfl) rfl) rfl rfl ?_
    refine GL.e (W := []) (EF.callA Try.call31 rfl (mapO_cons rfl rfl) (points_All_ok fu p0 r3 hr3) (by rintro _ _ ⟨rfl, rfl⟩; exact ⟨rfl, rfl⟩)) rfl rfl ?_
    rintro _ ⟨_, _, ⟨rfl, rfl⟩, rfl⟩
    refine GL.nil ?_
    change GW _ _ _ _ _ _
    refine GW.block ?_
    refine GW.adoptC 1 0 4 3 (Enc.sz Int) rfl rfl rfl rfl ?_
    refine GW.adoptC 2 0 5 3 (Enc.sz Int) rfl rfl rfl rfl ?_
    obtain ⟨r8, hr8, H⟩ := bind_some H
    obtain ⟨o5, o6, o7⟩ := r8
    refine GW.rangeFunc hro points_Ends_y3_lp 6 [2, 3, 6] [6, 1, 4, 2, 5, 3] false [6, 1, 4, 2, 5, 3] (fun _ _ => rfl) rfl Try.call38 rfl rfl (fun _ => rfl) rfl (by simp) (fun fn => points_All_1_7_ok fn fu r3 ([] : (List Int)) ([] : (List Int)) false (o5, o6, o7) hr8) (fun _ => rfl) ?_
    rintro fn _ _ ⟨rfl, rfl⟩
    refine ⟨_, ⟨[(2, .loc 1 0), (3, .loc 2 0), (6, .loc 3 0)], [(1, ⟨22, false, true, false, 0, [.osl 4 (Enc.sz Int) 0 (List.length o5)], none⟩), (2, ⟨22, false, true, false, 0, [.osl 5 (Enc.sz Int) 0 (List.length o6)], none⟩), (3, ⟨4, false, true, false, 0, [.val (.bool o7)], none⟩), (4, ⟨3, true, true, true, Enc.sz Int, encs o5, none⟩), (5, ⟨3, true, true, true, Enc.sz Int, encs o6, none⟩)], []⟩, _, _, rfl, rfl, rfl, rfl, ⟨⟨rfl, rfl, rfl, trivial⟩, ⟨rfl, rfl, rfl, rfl, rfl, trivial⟩, rfl⟩, rfl, LoopR.on (j := Jp.go) rfl ?_⟩
    change GW _ _ _ _ _ _
    refine GW.seq ?_
    refine GW.seq ?_
    refine GW.region ?_
    refine GL.y (YL.loadN rfl rfl rfl Try.isAgg4 rfl rfl) rfl rfl ?_
    refine GL.py (PY.un rfl rfl) rfl rfl ?_
    refine GL.nil ?_
    change GW _ _ _ _ _ _
    refine GW.cond rfl (fun hc2 => ?_) (fun hc2 => ?_)
    · have H := condT hc2 H
      refine GW.seq ?_
      refine GW.region ?_
      refine GL.e0 (EF.storeN (W := [1]) (cells' := [.val (.slice none 0 0)]) rfl rfl rfl rfl rfl rfl rfl rfl Try.sizeOf22 (Nat.le_of_ble_eq_true rfl) rfl rfl) rfl ?_
      refine GL.e0 (EF.storeN (W := [2]) (cells' := [.val (.slice none 0 0)]) rfl rfl rfl rfl rfl rfl rfl rfl Try.sizeOf22 (Nat.le_of_ble_eq_true rfl) rfl rfl) rfl ?_
      refine GL.py (PY.assign rfl) rfl rfl ?_
      refine GL.nil ?_
      change GW _ _ _ _ _ _
      refine GW.ret ?_
      have H := Option.some.inj H
      subst H
      exact RetQ.mk (.inl rfl) [.val (.slice none 0 0), .val (.slice none 0 0), .val (.int .i64 9)] _ [] ⟨Res.cell rfl rfl rfl Try.isAgg22 rfl, Res.cell rfl rfl rfl Try.isAgg22 rfl, Res.tmp rfl, trivial⟩ trivial rfl ⟨rfl, rfl⟩
    · have H := condF hc2 H
      refine GW.skip ?_
      change GW _ _ _ _ _ _
      refine GW.seq ?_
      refine GW.mono (Q := QB .normal (fun (q : Unit) => (⟨[(2, .loc 1 0), (3, .loc 2 0), (4, .val (.int .i64 0))], [(1, ⟨22, false, true, false, 0, [.osl 4 (Enc.sz Int) 0 (List.length o5)], none⟩), (2, ⟨22, false, true, false, 0, [.osl 5 (Enc.sz Int) 0 (List.length o6)], none⟩), (4, ⟨3, true, true, true, Enc.sz Int, encs o5, none⟩), (5, ⟨3, true, true, true, Enc.sz Int, encs o6, none⟩)], []⟩ : St)) ()) ?_ ?_
      · refine GW.draws [1, 2] mixed ?_
        change GH1 _ _ _ _ _ _ 5 _ _
        refine GH1.later ?_
        refine GH2.any 0 [1] (by decide +kernel) ⟨Turn.y 0 rfl rfl rfl (by decide) (YL.loadN rfl rfl rfl Try.isAgg22 rfl rfl) ?_, Turn.y 1 rfl rfl rfl (by decide) (YL.loadN rfl rfl rfl Try.isAgg22 rfl rfl) ?_, trivial⟩
        · refine GH2.any 1 [2] (by decide +kernel) ⟨Turn.y 1 rfl rfl rfl (by decide) (YL.loadN rfl rfl rfl Try.isAgg22 rfl rfl) ?_, Turn.e 2 rfl rfl (fun d e => by cases e) (EF.storeN (cells' := [.osl 4 (Enc.sz Int) 0 (List.length o5)]) rfl rfl rfl rfl rfl rfl rfl rfl Try.sizeOf22 (Nat.le_of_ble_eq_true rfl) rfl rfl) ?_, trivial⟩
          · refine GH2.one 2 (by decide +kernel) rfl rfl (fun d e => by cases e) (EF.storeN (cells' := [.osl 4 (Enc.sz Int) 0 (List.length o5)]) rfl rfl rfl rfl rfl rfl rfl rfl Try.sizeOf22 (Nat.le_of_ble_eq_true rfl) rfl rfl) ?_
            rintro _ rfl
            refine GH2.one 3 (by decide +kernel) rfl rfl (fun d e => by cases e) (EF.storeN (cells' := [.osl 5 (Enc.sz Int) 0 (List.length o6)]) rfl rfl rfl rfl rfl rfl rfl rfl Try.sizeOf22 (Nat.le_of_ble_eq_true rfl) rfl rfl) ?_
            rintro _ rfl
            refine GH2.take 4 rfl (by decide +kernel) (by decide +kernel) (by decide +kernel) rfl rfl (by decide) (PY.assign rfl) ?_
            refine GH2.done (by decide +kernel) ?_
            exact And.intro rfl ⟨⟨rfl, rfl, rfl, trivial⟩, ⟨rfl, rfl, rfl, rfl, trivial⟩, rfl⟩
          · rintro _ rfl
            refine GH2.oneY 1 (by decide +kernel) rfl rfl rfl (by decide) (YL.loadN rfl rfl rfl Try.isAgg22 rfl rfl) ?_
            refine GH2.one 3 (by decide +kernel) rfl rfl (fun d e => by cases e) (EF.storeN (cells' := [.osl 5 (Enc.sz Int) 0 (List.length o6)]) rfl rfl rfl rfl rfl rfl rfl rfl Try.sizeOf22 (Nat.le_of_ble_eq_true rfl) rfl rfl) ?_
            rintro _ rfl
            refine GH2.take 4 rfl (by decide +kernel) (by decide +kernel) (by decide +kernel) rfl rfl (by decide) (PY.assign rfl) ?_
            refine GH2.done (by decide +kernel) ?_
            exact And.intro rfl ⟨⟨rfl, rfl, rfl, trivial⟩, ⟨rfl, rfl, rfl, rfl, trivial⟩, rfl⟩
        · refine GH2.oneY 0 (by decide +kernel) rfl rfl rfl (by decide) (YL.loadN rfl rfl rfl Try.isAgg22 rfl rfl) ?_
          refine GH2.one 2 (by decide +kernel) rfl rfl (fun d e => by cases e) (EF.storeN (cells' := [.osl 4 (Enc.sz Int) 0 (List.length o5)]) rfl rfl rfl rfl rfl rfl rfl rfl Try.sizeOf22 (Nat.le_of_ble_eq_true rfl) rfl rfl) ?_
          rintro _ rfl
          refine GH2.one 3 (by decide +kernel) rfl rfl (fun d e => by cases e) (EF.storeN (cells' := [.osl 5 (Enc.sz Int) 0 (List.length o6)]) rfl rfl rfl rfl rfl rfl rfl rfl Try.sizeOf22 (Nat.le_of_ble_eq_true rfl) rfl rfl) ?_
          rintro _ rfl
          refine GH2.take 4 rfl (by decide +kernel) (by decide +kernel) (by decide +kernel) rfl rfl (by decide) (PY.assign rfl) ?_
          refine GH2.done (by decide +kernel) ?_
          exact And.intro rfl ⟨⟨rfl, rfl, rfl, trivial⟩, ⟨rfl, rfl, rfl, rfl, trivial⟩, rfl⟩
      · rintro _ s2 ⟨rfl, hs⟩
        change GW _ _ _ _ _ _
        refine GW.weak _ hs ?_
        refine GW.weak ⟨[(2, .loc 1 0), (3, .loc 2 0), (4, .val (.int .i64 0))], [(1, ⟨22, false, true, false, 0, [.osl 4 (Enc.sz Int) 0 (List.length o5)], none⟩), (2, ⟨22, false, true, false, 0, [.osl 5 (Enc.sz Int) 0 (List.length o6)], none⟩), (4, ⟨3, true, true, true, Enc.sz Int, encs o5, none⟩), (5, ⟨3, true, true, true, Enc.sz Int, encs o6, none⟩)], []⟩ ⟨⟨rfl, rfl, rfl, trivial⟩, ⟨rfl, rfl, rfl, rfl, trivial⟩, rfl⟩ ?_
        change GW _ _ _ _ _ _
        refine GW.ret ?_
        have H := Option.some.inj H
        subst H
        exact RetQ.mk (.inl rfl) [.osl 4 (Enc.sz Int) 0 (List.length o5), .osl 5 (Enc.sz Int) 0 (List.length o6), .val (.int .i64 0)] _ [] ⟨Res.cell rfl rfl rfl Try.isAgg22 rfl, Res.cell rfl rfl rfl Try.isAgg22 rfl, Res.tmp rfl, trivial⟩ trivial (fz_tup (fz_go (fz_vec (α := Int) (l := o5) rfl rfl rfl rfl rfl rfl) (fz_go (fz_vec (α := Int) (l := o6) rfl rfl rfl rfl rfl rfl) (fz_go rfl rfl)))) ⟨rfl, rfl⟩

theorem adjointref9_Ends_ok (fu : Nat) (p0 : SPoints) (r : ((List Int) × (List Int) × Int)) (H : F.adjointref9_Ends fu p0 = some r) : GM Try.prog 19 [.agg [.sl (List.length p0.Box) (encs p0.Box), .sl (List.length p0.Rows) (encs p0.Rows)]] [] (fun g st => g = .tup [.fr (.sl (List.length r.1) (encs r.1)), .fr (.sl (List.length r.2.1) (encs r.2.1)), .val (.int .i64 r.2.2)] ∧ st = []) := by
  unfold F.adjointref9_Ends at H
  refine GM.of (N := 70) Try.func19 rfl rfl rfl (fun cx hro => ?_)
  change GW _ _ _ _ _ _
  refine GW.seq ?_
  refine GW.region ?_
  refine GL.e1 (W := []) (EF.box 0 rfl rfl rfl) rfl rfl ?_
  refine GL.py (PY.assign rfl) rfl rfl ?_
  refine GL.py (PY.assign rfl) rfl rfl ?_
  refine GL.py (PY.assign rfl) rfl rfl ?_
  refine GL.nil ?_
  change GW _ _ _ _ _ _
  refine GW.seq ?_
  refine GW.seq ?_
  obtain ⟨r1, hr1, H⟩ := bind_some H
  refine GW.region ?_
  refine GL.y (YL.loadAgg rfl rfl rfl Try.isAgg25 Try.sizeOf25 (Nat.le_of_ble_eq_true rfl) rfl) rfl rfl ?_
  refine GL.e (W := []) (EF.call 4 Try.call9 rfl (mapO_cons rfl rfl) (adjointref9_Wrong_ok fu p0 r1 hr1) (by rintro _ _ ⟨rfl, rfl⟩; rfl)) rfl rfl ?_
  rintro _ ⟨_, _, ⟨rfl, rfl⟩, rfl⟩
  refine GL.py (PY.assign rfl) rfl rfl ?_
  refine GL.nil ?_
  change GW _ _ _ _ _ _
  refine GW.seq ?_
  refine GW.region ?_
  refine GL.py (PY.move rfl) rfl rfl ?_
  refine GL.py (PY.bin rfl rfl rfl) rfl rfl ?_
  refine GL.nil ?_
  change GW _ _ _ _ _ _
  refine GW.cond rfl (fun hc1 => ?_) (fun hc1 => ?_)
  · have H := condT hc1 H
    refine GW.seq ?_
    refine GW.region ?_
    refine GL.py (PY.move rfl) rfl rfl ?_
    refine GL.py (PY.assign rfl) rfl rfl ?_
    refine GL.py (PY.assign rfl) rfl rfl ?_
    refine GL.py (PY.assign rfl) rfl rfl ?_
    refine GL.nil ?_
    change GW _ _ _ _ _ _
    refine GW.ret ?_
    have H := Option.some.inj H
    subst H
    exact RetQ.mk (.inl rfl) [.val (.slice none 0 0), .val (.slice none 0 0), .val (.int .i64 r1)] _ [] ⟨Res.tmp rfl, Res.tmp rfl, Res.tmp rfl, trivial⟩ trivial rfl ⟨rfl, rfl⟩
  · have H := condF hc1 H
    refine GW.skip ?_
    change GW _ _ _ _ _ _
    refine GW.seq ?_
    obtain ⟨r3, hr3, H⟩ := bind_some H
    refine GW.region ?_
    refine GL.y (YL.loadAgg rfl rfl rfl Try.isAgg25 Try.sizeOf25 (Nat.le_of_ble_eq_true rfl) rfl) rfl rfl ?_
    refine GL.e (W := []) (EF.call 4 Try.call13 rfl (mapO_cons rfl rfl) (adjointref9_All_ok fu p0 r3 hr3) (by rintro _ _ ⟨rfl, rfl⟩; rfl)) rfl rfl ?_
    rintro _ ⟨_, _, ⟨rfl, rfl⟩, rfl⟩
    refine GL.py (PY.assign rfl) rfl rfl ?_
    refine GL.nil ?_
    change GW _ _ _ _ _ _
    refine GW.seq ?_
    refine GW.seq ?_
    refine GW.region ?_
    refine GL.py (PY.move rfl) rfl rfl ?_
    refine GL.py (PY.len rfl rfl Try.underlying35) rfl rfl ?_
    refine GL.py (PY.bin rfl rfl rfl) rfl rfl ?_
    refine GL.nil ?_
    change GW _ _ _ _ _ _
    refine GW.cond rfl (fun hc2 => ?_) (fun hc2 => ?_)
    · have H := condT hc2 H
      refine GW.seq ?_
      refine GW.region ?_
      refine GL.py (PY.assign rfl) rfl rfl ?_
      refine GL.py (PY.assign rfl) rfl rfl ?_
      refine GL.py (PY.assign rfl) rfl rfl ?_
      refine GL.nil ?_
      change GW _ _ _ _ _ _
      refine GW.ret ?_
      have H := Option.some.inj H
      subst H
      exact RetQ.mk (.inl rfl) [.val (.slice none 0 0), .val (.slice none 0 0), .val (.int .i64 9)] _ [] ⟨Res.tmp rfl, Res.tmp rfl, Res.tmp rfl, trivial⟩ trivial rfl ⟨rfl, rfl⟩
    · have H := condF hc2 H
      refine GW.skip ?_
      change GW _ _ _ _ _ _
      refine GW.seq ?_
      obtain ⟨x5, hx5, H⟩ := bind_some H
      obtain ⟨_, ha3, H⟩ := bind_some H
      replace ha3 := chk_spec ha3
      refine GW.mono (Q := QB .normal (fun (q : Unit) => (⟨[(6, .fr (.sl (List.length r3) (encs r3))), (7, .osl 1 (Enc.sz Int) 0 (List.length (([] : (List Int)) ++ x5))), (8, .osl 6 (Enc.sz Int) 0 (List.length (([] : (List Int)) ++ x5)))], [(1, ⟨3, true, true, true, Enc.sz Int, encs (([] : (List Int)) ++ x5), none⟩), (6, ⟨3, true, true, true, Enc.sz Int, encs (([] : (List Int)) ++ x5), none⟩)], []⟩ : St)) ()) ?_ ?_
      · refine GW.draws [1, 6] mixed ?_
        change GH1 _ _ _ _ _ _ 12 _ _
        refine GH1.take 1 rfl (by decide +kernel) (by decide +kernel) (by decide +kernel) rfl rfl (by decide) ((PY.move rfl).yield _) ?_
        refine GH1.take 2 rfl (by decide +kernel) (by decide +kernel) (by decide +kernel) rfl rfl (by decide) ((PY.index rfl rfl rfl (idx_spec hx5).1 (idx_spec hx5).2.1 Try.underlying35 Try.sizeOf22).yield _) ?_
        refine GH1.take 3 rfl (by decide +kernel) (by decide +kernel) (by decide +kernel) rfl rfl (by decide) (YT.eltF (α := (List Int)) rfl hx5 rfl Try.isAgg22 rfl) ?_
        refine GH1.take 6 rfl (by decide +kernel) (by decide +kernel) (by decide +kernel) rfl rfl (by decide) ((PY.move rfl).yield _) ?_
        refine GH1.take 7 rfl (by decide +kernel) (by decide +kernel) (by decide +kernel) rfl rfl (by decide) ((PY.index rfl rfl rfl (idx_spec hx5).1 (idx_spec hx5).2.1 Try.underlying35 Try.sizeOf22).yield _) ?_
        refine GH1.take 8 rfl (by decide +kernel) (by decide +kernel) (by decide +kernel) rfl rfl (by decide) (YT.eltF (α := (List Int)) rfl hx5 rfl Try.isAgg22 rfl) ?_
        refine GH1.later ?_
        refine GH2.any 0 [5] (by decide +kernel) ⟨Turn.e 0 rfl rfl (fun d e => by cases e; decide) (EF.buildSlice0 1 Try.underlying22 info3 rfl) ?_, Turn.e 5 rfl rfl (fun d e => by cases e; decide) (EF.buildSlice0 6 Try.underlying22 info3 rfl) ?_, trivial⟩
        · rintro _ rfl
          refine GH2.any 4 [5] (by decide +kernel) ⟨Turn.e 4 rfl rfl (fun d e => by cases e; decide) (ET.append (α := Int) (m := x5) rfl rfl rfl rfl rfl rfl rfl rfl rfl Try.underlying22 info3 rfl ha3.1 ha3.2 rfl) ?_, Turn.e 5 rfl rfl (fun d e => by cases e; decide) (EF.buildSlice0 6 Try.underlying22 info3 rfl) ?_, trivial⟩
          · rintro _ rfl
            refine GH2.one 5 (by decide +kernel) rfl rfl (fun d e => by cases e; decide) (EF.buildSlice0 6 Try.underlying22 info3 rfl) ?_
            rintro _ rfl
            refine GH2.one 9 (by decide +kernel) rfl rfl (fun d e => by cases e; decide) (ET.append (α := Int) (m := x5) rfl rfl rfl rfl rfl rfl rfl rfl rfl Try.underlying22 info3 rfl ha3.1 ha3.2 rfl) ?_
            rintro _ rfl
            refine GH2.take 10 rfl (by decide +kernel) (by decide +kernel) (by decide +kernel) rfl rfl (by decide) (PY.assign rfl) ?_
            refine GH2.take 11 rfl (by decide +kernel) (by decide +kernel) (by decide +kernel) rfl rfl (by decide) (PY.assign rfl) ?_
            refine GH2.done (by decide +kernel) ?_
            exact And.intro rfl ⟨⟨rfl, rfl, rfl, trivial⟩, ⟨rfl, rfl, trivial⟩, rfl⟩
          · rintro _ rfl
            refine GH2.one 4 (by decide +kernel) rfl rfl (fun d e => by cases e; decide) (ET.append (α := Int) (m := x5) rfl rfl rfl rfl rfl rfl rfl rfl rfl Try.underlying22 info3 rfl ha3.1 ha3.2 rfl) ?_
            rintro _ rfl
            refine GH2.one 9 (by decide +kernel) rfl rfl (fun d e => by cases e; decide) (ET.append (α := Int) (m := x5) rfl rfl rfl rfl rfl rfl rfl rfl rfl Try.underlying22 info3 rfl ha3.1 ha3.2 rfl) ?_
            rintro _ rfl
            refine GH2.take 10 rfl (by decide +kernel) (by decide +kernel) (by decide +kernel) rfl rfl (by decide) (PY.assign rfl) ?_
            refine GH2.take 11 rfl (by decide +kernel) (by decide +kernel) (by decide +kernel) rfl rfl (by decide) (PY.assign rfl) ?_
            refine GH2.done (by decide +kernel) ?_
            exact And.intro rfl ⟨⟨rfl, rfl, rfl, trivial⟩, ⟨rfl, rfl, trivial⟩, rfl⟩
        · rintro _ rfl
          refine GH2.one 0 (by decide +kernel) rfl rfl (fun d e => by cases e; decide) (EF.buildSlice0 1 Try.underlying22 info3 rfl) ?_
          rintro _ rfl
          refine GH2.one 4 (by decide +kernel) rfl rfl (fun d e => by cases e; decide) (ET.append (α := Int) (m := x5) rfl rfl rfl rfl rfl rfl rfl rfl rfl Try.underlying22 info3 rfl ha3.1 ha3.2 rfl) ?_
          rintro _ rfl
          refine GH2.one 9 (by decide +kernel) rfl rfl (fun d e => by cases e; decide) (ET.append (α := Int) (m := x5) rfl rfl rfl rfl rfl rfl rfl rfl rfl Try.underlying22 info3 rfl ha3.1 ha3.2 rfl) ?_
          rintro _ rfl
          refine GH2.take 10 rfl (by decide +kernel) (by decide +kernel) (by decide +kernel) rfl rfl (by decide) (PY.assign rfl) ?_
          refine GH2.take 11 rfl (by decide +kernel) (by decide +kernel) (by decide +kernel) rfl rfl (by decide) (PY.assign rfl) ?_
          refine GH2.done (by decide +kernel) ?_
          exact And.intro rfl ⟨⟨rfl, rfl, rfl, trivial⟩, ⟨rfl, rfl, trivial⟩, rfl⟩
      · rintro _ s2 ⟨rfl, hs⟩
        change GW _ _ _ _ _ _
        refine GW.weak _ hs ?_
        refine GW.weak ⟨[(6, .fr (.sl (List.length r3) (encs r3))), (7, .osl 1 (Enc.sz Int) 0 (List.length (([] : (List Int)) ++ x5))), (8, .osl 6 (Enc.sz Int) 0 (List.length (([] : (List Int)) ++ x5)))], [(1, ⟨3, true, true, true, Enc.sz Int, encs (([] : (List Int)) ++ x5), none⟩), (6, ⟨3, true, true, true, Enc.sz Int, encs (([] : (List Int)) ++ x5), none⟩)], []⟩ ⟨⟨rfl, rfl, rfl, trivial⟩, ⟨rfl, rfl, trivial⟩, rfl⟩ ?_
        change GW _ _ _ _ _ _
        refine GW.seq ?_
        refine GW.seq ?_
        refine GW.region ?_
        refine GL.py (PY.move rfl) rfl rfl ?_
        refine GL.py (PY.len rfl rfl Try.underlying35) rfl rfl ?_
        refine GL.py (PY.move rfl) rfl rfl ?_
        refine GL.nil ?_
        change GW _ _ _ _ _ _
        refine GW.block ?_
        obtain ⟨e35, he35, H⟩ := bind_some H
        refine GW.weak ((fun (q : Int × (List Int) × (List Int)) => (⟨[(7, .osl 1 (Enc.sz Int) 0 (List.length q.2.1)), (8, .osl 6 (Enc.sz Int) 0 (List.length q.2.2)), (33, .fr (.sl (List.length r3) (encs r3))), (34, .val (.int .i64 (List.length r3 : Int))), (35, .val (.int .i64 q.1))], [(1, ⟨3, true, true, true, Enc.sz Int, encs q.2.1, none⟩), (6, ⟨3, true, true, true, Enc.sz Int, encs q.2.2, none⟩)], []⟩ : St)) (0, ([] : (List Int)) ++ x5, ([] : (List Int)) ++ x5)) ⟨⟨rfl, rfl, rfl, rfl, rfl, trivial⟩, ⟨rfl, rfl, trivial⟩, rfl⟩ ?_
        refine GW.loopF (fun (q : Int × (List Int) × (List Int)) => (⟨[(7, .osl 1 (Enc.sz Int) 0 (List.length q.2.1)), (8, .osl 6 (Enc.sz Int) 0 (List.length q.2.2)), (33, .fr (.sl (List.length r3) (encs r3))), (34, .val (.int .i64 (List.length r3 : Int))), (35, .val (.int .i64 q.1))], [(1, ⟨3, true, true, true, Enc.sz Int, encs q.2.1, none⟩), (6, ⟨3, true, true, true, Enc.sz Int, encs q.2.2, none⟩)], []⟩ : St)) (QB (.exit 0) (fun (q : (List Int) × (List Int)) => (⟨[(7, .osl 1 (Enc.sz Int) 0 (List.length q.1)), (8, .osl 6 (Enc.sz Int) 0 (List.length q.2))], [(1, ⟨3, true, true, true, Enc.sz Int, encs q.1, none⟩), (6, ⟨3, true, true, true, Enc.sz Int, encs q.2, none⟩)], []⟩ : St))) he35 (fun x o hb => ?_) (fun ex s2 _ hx => ?_)
        · obtain ⟨i6, low7, high8⟩ := x
          have H := hb
          unfold F.adjointref9_Ends_l1 at H
          try dsimp only at H
          refine GW.weak ⟨[(7, .osl 1 (Enc.sz Int) 0 (List.length low7)), (8, .osl 6 (Enc.sz Int) 0 (List.length high8)), (33, .fr (.sl (List.length r3) (encs r3))), (34, .val (.int .i64 (List.length r3 : Int))), (35, .val (.int .i64 i6))], [(1, ⟨3, true, true, true, Enc.sz Int, encs low7, none⟩), (6, ⟨3, true, true, true, Enc.sz Int, encs high8, none⟩)], []⟩ ⟨⟨rfl, rfl, rfl, rfl, rfl, trivial⟩, ⟨rfl, rfl, trivial⟩, rfl⟩ ?_
          refine GW.seq ?_
          refine GW.region ?_
          refine GL.py (PY.bin rfl rfl rfl) rfl rfl ?_
          refine GL.nil ?_
          change GW _ _ _ _ _ _
          refine GW.seq ?_
          refine GW.cond rfl (fun hc29 => ?_) (fun hc29 => ?_)
          · have H := condT hc29 H
            refine GW.skip ?_
            change GW _ _ _ _ _ _
            refine GW.seq ?_
            refine GW.block ?_
            refine GW.seq ?_
            obtain ⟨x11, hx11, H⟩ := bind_some H
            refine GW.region ?_
            refine GL.py (PY.index rfl rfl rfl (idx_spec hx11).1 (idx_spec hx11).2.1 Try.underlying35 Try.sizeOf22) rfl rfl ?_
            refine GL.y (YT.eltF (α := (List Int)) rfl hx11 rfl Try.isAgg22 rfl) rfl rfl ?_
            refine GL.py (PY.assign rfl) rfl rfl ?_
            refine GL.nil ?_
            change GW _ _ _ _ _ _
            refine GW.seq ?_
            refine GW.region ?_
            refine GL.py (PY.move rfl) rfl rfl ?_
            refine GL.py (PY.len rfl rfl Try.underlying22) rfl rfl ?_
            refine GL.py (PY.move rfl) rfl rfl ?_
            refine GL.nil ?_
            change GW _ _ _ _ _ _
            refine GW.block ?_
            obtain ⟨e34, he34, H⟩ := bind_some H
            refine GW.weak ((fun (q : Int × (List Int) × (List Int)) => (⟨[(7, .osl 1 (Enc.sz Int) 0 (List.length q.2.1)), (8, .osl 6 (Enc.sz Int) 0 (List.length q.2.2)), (33, .fr (.sl (List.length r3) (encs r3))), (34, .val (.int .i64 (List.length r3 : Int))), (35, .val (.int .i64 i6)), (39, .fr (.sl (List.length x11) (encs x11))), (40, .val (.int .i64 (List.length x11 : Int))), (41, .val (.int .i64 q.1))], [(1, ⟨3, true, true, true, Enc.sz Int, encs q.2.1, none⟩), (6, ⟨3, true, true, true, Enc.sz Int, encs q.2.2, none⟩)], []⟩ : St)) (0, low7, high8)) ⟨⟨rfl, rfl, rfl, rfl, rfl, rfl, rfl, rfl, trivial⟩, ⟨rfl, rfl, trivial⟩, rfl⟩ ?_
            refine GW.loopF (fun (q : Int × (List Int) × (List Int)) => (⟨[(7, .osl 1 (Enc.sz Int) 0 (List.length q.2.1)), (8, .osl 6 (Enc.sz Int) 0 (List.length q.2.2)), (33, .fr (.sl (List.length r3) (encs r3))), (34, .val (.int .i64 (List.length r3 : Int))), (35, .val (.int .i64 i6)), (39, .fr (.sl (List.length x11) (encs x11))), (40, .val (.int .i64 (List.length x11 : Int))), (41, .val (.int .i64 q.1))], [(1, ⟨3, true, true, true, Enc.sz Int, encs q.2.1, none⟩), (6, ⟨3, true, true, true, Enc.sz Int, encs q.2.2, none⟩)], []⟩ : St)) (QB (.exit 2) (fun (q : (List Int) × (List Int)) => (⟨[(7, .osl 1 (Enc.sz Int) 0 (List.length q.1)), (8, .osl 6 (Enc.sz Int) 0 (List.length q.2)), (33, .fr (.sl (List.length r3) (encs r3))), (34, .val (.int .i64 (List.length r3 : Int))), (35, .val (.int .i64 i6))], [(1, ⟨3, true, true, true, Enc.sz Int, encs q.1, none⟩), (6, ⟨3, true, true, true, Enc.sz Int, encs q.2, none⟩)], []⟩ : St))) he34 (fun x o hb => ?_) (fun ex s2 _ hx => ?_)
            · obtain ⟨i12, low13, high14⟩ := x
              have H := hb
              unfold F.adjointref9_Ends_l2 at H
              try dsimp only at H
              refine GW.weak ⟨[(7, .osl 1 (Enc.sz Int) 0 (List.length low13)), (8, .osl 6 (Enc.sz Int) 0 (List.length high14)), (33, .fr (.sl (List.length r3) (encs r3))), (34, .val (.int .i64 (List.length r3 : Int))), (35, .val (.int .i64 i6)), (39, .fr (.sl (List.length x11) (encs x11))), (40, .val (.int .i64 (List.length x11 : Int))), (41, .val (.int .i64 i12))], [(1, ⟨3, true, true, true, Enc.sz Int, encs low13, none⟩), (6, ⟨3, true, true, true, Enc.sz Int, encs high14, none⟩)], []⟩ ⟨⟨rfl, rfl, rfl, rfl, rfl, rfl, rfl, rfl, trivial⟩, ⟨rfl, rfl, trivial⟩, rfl⟩ ?_
              refine GW.seq ?_
              refine GW.region ?_
              refine GL.py (PY.bin rfl rfl rfl) rfl rfl ?_
              refine GL.nil ?_
              change GW _ _ _ _ _ _
              refine GW.seq ?_
              refine GW.cond rfl (fun hc30 => ?_) (fun hc30 => ?_)
              · have H := condT hc30 H
                refine GW.skip ?_
                change GW _ _ _ _ _ _
                refine GW.seq ?_
                refine GW.block ?_
                refine GW.seq ?_
                obtain ⟨x17, hx17, H⟩ := bind_some H
                refine GW.region ?_
                refine GL.py (PY.move rfl) rfl rfl ?_
                refine GL.py (PY.index rfl rfl rfl (idx_spec hx17).1 (idx_spec hx17).2.1 Try.underlying22 Try.sizeOf3) rfl rfl ?_
                refine GL.y (YT.eltF (α := Int) rfl hx17 rfl Try.isAgg3 rfl) rfl rfl ?_
                refine GL.py (PY.assign rfl) rfl rfl ?_
                refine GL.py (PY.assign rfl) rfl rfl ?_
                refine GL.nil ?_
                change GW _ _ _ _ _ _
                refine GW.seq ?_
                refine GW.seq ?_
                obtain ⟨x18, hx18, H⟩ := bind_some H
                refine GW.region ?_
                refine GL.py (PY.move rfl) rfl rfl ?_
                refine GL.py (PY.move rfl) rfl rfl ?_
                refine GL.py (PY.move rfl) rfl rfl ?_
                refine GL.py (PY.index rfl rfl rfl (idx_spec hx18).1 (idx_spec hx18).2.1 Try.underlying22 Try.sizeOf3) rfl rfl ?_
                refine GL.y (YT.own (α := Int) rfl rfl rfl hx18 rfl Try.isAgg3 rfl rfl) rfl rfl ?_
                refine GL.py (PY.bin rfl rfl rfl) rfl rfl ?_
                refine GL.nil ?_
                change GW _ _ _ _ _ _
                obtain ⟨e32, he32, H⟩ := bind_some H
                obtain ⟨low19, rfl⟩ : ∃ z, z = e32 := ⟨_, rfl⟩
                refine GW.mono (Q := QB .normal (fun (q : (List Int)) => (⟨[(7, .osl 1 (Enc.sz Int) 0 (List.length q)), (8, .osl 6 (Enc.sz Int) 0 (List.length high14)), (11, .val (.int .i64 i12)), (12, .val (.int .i64 x17)), (33, .fr (.sl (List.length r3) (encs r3))), (34, .val (.int .i64 (List.length r3 : Int))), (35, .val (.int .i64 i6)), (39, .fr (.sl (List.length x11) (encs x11))), (40, .val (.int .i64 (List.length x11 : Int))), (41, .val (.int .i64 i12))], [(1, ⟨3, true, true, true, Enc.sz Int, encs q, none⟩), (6, ⟨3, true, true, true, Enc.sz Int, encs high14, none⟩)], []⟩ : St)) low19) ?_ ?_
                · have H := he32
                  refine GW.cond rfl (fun hc31 => ?_) (fun hc31 => ?_)
                  · have H := condT hc31 H
                    refine GW.region ?_
                    refine GL.py (PY.move rfl) rfl rfl ?_
                    refine GL.py (PY.move rfl) rfl rfl ?_
                    refine GL.py (PY.move rfl) rfl rfl ?_
                    refine GL.py (PY.index rfl rfl rfl (idx_spec hx18).1 (idx_spec hx18).2.1 Try.underlying22 Try.sizeOf3) rfl rfl ?_
                    refine GL.e0 (ET.set (α := Int) (x := x17) (W := [1]) rfl rfl rfl rfl rfl rfl rfl rfl rfl (idx_spec hx18).1 (idx_spec hx18).2.1 Try.sizeOf3 rfl) rfl ?_
                    refine GL.resl 7 rfl (show List.length low13 = List.length (List.set low13 (Int.toNat i12) x17) from List.length_set.symm) ?_
                    refine GL.resl 52 rfl (show List.length low13 = List.length (List.set low13 (Int.toNat i12) x17) from List.length_set.symm) ?_
                    refine GL.nil ?_
                    cases H
                    exact And.intro rfl ⟨⟨rfl, rfl, rfl, rfl, rfl, rfl, rfl, rfl, rfl, rfl, trivial⟩, ⟨rfl, rfl, trivial⟩, rfl⟩
                  · have H := condF hc31 H
                    refine GW.skip ?_
                    cases H
                    exact And.intro rfl ⟨⟨rfl, rfl, rfl, rfl, rfl, rfl, rfl, rfl, rfl, rfl, trivial⟩, ⟨rfl, rfl, trivial⟩, rfl⟩
                · rintro _ s2 ⟨rfl, hs⟩
                  change GW _ _ _ _ _ _
                  refine GW.weak _ hs ?_
                  refine GW.weak ⟨[(7, .osl 1 (Enc.sz Int) 0 (List.length low19)), (8, .osl 6 (Enc.sz Int) 0 (List.length high14)), (11, .val (.int .i64 i12)), (12, .val (.int .i64 x17)), (33, .fr (.sl (List.length r3) (encs r3))), (34, .val (.int .i64 (List.length r3 : Int))), (35, .val (.int .i64 i6)), (39, .fr (.sl (List.length x11) (encs x11))), (40, .val (.int .i64 (List.length x11 : Int))), (41, .val (.int .i64 i12))], [(1, ⟨3, true, true, true, Enc.sz Int, encs low19, none⟩), (6, ⟨3, true, true, true, Enc.sz Int, encs high14, none⟩)], []⟩ ⟨⟨rfl, rfl, rfl, rfl, rfl, rfl, rfl, rfl, rfl, rfl, trivial⟩, ⟨rfl, rfl, trivial⟩, rfl⟩ ?_
                  change GW _ _ _ _ _ _
                  refine GW.seq ?_
                  obtain ⟨x20, hx20, H⟩ := bind_some H
                  refine GW.region ?_
                  refine GL.py (PY.move rfl) rfl rfl ?_
                  refine GL.py (PY.move rfl) rfl rfl ?_
                  refine GL.py (PY.move rfl) rfl rfl ?_
                  refine GL.py (PY.index rfl rfl rfl (idx_spec hx20).1 (idx_spec hx20).2.1 Try.underlying22 Try.sizeOf3) rfl rfl ?_
                  refine GL.y (YT.own (α := Int) rfl rfl rfl hx20 rfl Try.isAgg3 rfl rfl) rfl rfl ?_
                  refine GL.py (PY.bin rfl rfl rfl) rfl rfl ?_
                  refine GL.nil ?_
                  change GW _ _ _ _ _ _
                  refine GW.cond rfl (fun hc33 => ?_) (fun hc33 => ?_)
                  · have H := condT hc33 H
                    refine GW.region ?_
                    refine GL.py (PY.move rfl) rfl rfl ?_
                    refine GL.py (PY.move rfl) rfl rfl ?_
                    refine GL.py (PY.move rfl) rfl rfl ?_
                    refine GL.py (PY.index rfl rfl rfl (idx_spec hx20).1 (idx_spec hx20).2.1 Try.underlying22 Try.sizeOf3) rfl rfl ?_
                    refine GL.e0 (ET.set (α := Int) (x := x17) (W := [6]) rfl rfl rfl rfl rfl rfl rfl rfl rfl (idx_spec hx20).1 (idx_spec hx20).2.1 Try.sizeOf3 rfl) rfl ?_
                    refine GL.resl 8 rfl (show List.length high14 = List.length (List.set high14 (Int.toNat i12) x17) from List.length_set.symm) ?_
                    refine GL.resl 62 rfl (show List.length high14 = List.length (List.set high14 (Int.toNat i12) x17) from List.length_set.symm) ?_
                    refine GL.nil ?_
                    change GW _ _ _ _ _ _
                    refine GW.region ?_
                    refine GL.py (PY.bin rfl rfl rfl) rfl rfl ?_
                    refine GL.py (PY.move rfl) rfl rfl ?_
                    refine GL.nil ?_
                    cases H
                    exact And.intro rfl ⟨⟨rfl, rfl, rfl, rfl, rfl, rfl, rfl, rfl, trivial⟩, ⟨rfl, rfl, trivial⟩, rfl⟩
                  · have H := condF hc33 H
                    refine GW.skip ?_
                    change GW _ _ _ _ _ _
                    refine GW.region ?_
                    refine GL.py (PY.bin rfl rfl rfl) rfl rfl ?_
                    refine GL.py (PY.move rfl) rfl rfl ?_
                    refine GL.nil ?_
                    cases H
                    exact And.intro rfl ⟨⟨rfl, rfl, rfl, rfl, rfl, rfl, rfl, rfl, trivial⟩, ⟨rfl, rfl, trivial⟩, rfl⟩
              · have H := condF hc30 H
                refine GW.exit ?_
                cases H
                exact And.intro exit_ne (And.intro rfl ⟨⟨rfl, rfl, rfl, rfl, rfl, trivial⟩, ⟨rfl, rfl, trivial⟩, rfl⟩)
            · obtain ⟨rfl, hs⟩ := hx
              obtain ⟨low15, high16⟩ := e34
              change GW _ _ _ _ _ _
              refine GW.weak _ hs ?_
              refine GW.weak ⟨[(7, .osl 1 (Enc.sz Int) 0 (List.length low15)), (8, .osl 6 (Enc.sz Int) 0 (List.length high16)), (33, .fr (.sl (List.length r3) (encs r3))), (34, .val (.int .i64 (List.length r3 : Int))), (35, .val (.int .i64 i6))], [(1, ⟨3, true, true, true, Enc.sz Int, encs low15, none⟩), (6, ⟨3, true, true, true, Enc.sz Int, encs high16, none⟩)], []⟩ ⟨⟨rfl, rfl, rfl, rfl, rfl, trivial⟩, ⟨rfl, rfl, trivial⟩, rfl⟩ ?_
              change GW _ _ _ _ _ _
              refine GW.region ?_
              refine GL.py (PY.bin rfl rfl rfl) rfl rfl ?_
              refine GL.py (PY.move rfl) rfl rfl ?_
              refine GL.nil ?_
              cases H
              exact And.intro rfl ⟨⟨rfl, rfl, rfl, rfl, rfl, trivial⟩, ⟨rfl, rfl, trivial⟩, rfl⟩
          · have H := condF hc29 H
            refine GW.exit ?_
            cases H
            exact And.intro exit_ne (And.intro rfl ⟨⟨rfl, rfl, trivial⟩, ⟨rfl, rfl, trivial⟩, rfl⟩)
        · obtain ⟨rfl, hs⟩ := hx
          obtain ⟨low9, high10⟩ := e35
          change GW _ _ _ _ _ _
          refine GW.weak _ hs ?_
          refine GW.weak ⟨[(7, .osl 1 (Enc.sz Int) 0 (List.length low9)), (8, .osl 6 (Enc.sz Int) 0 (List.length high10))], [(1, ⟨3, true, true, true, Enc.sz Int, encs low9, none⟩), (6, ⟨3, true, true, true, Enc.sz Int, encs high10, none⟩)], []⟩ ⟨⟨rfl, rfl, trivial⟩, ⟨rfl, rfl, trivial⟩, rfl⟩ ?_
          change GW _ _ _ _ _ _
          refine GW.seq ?_
          refine GW.region ?_
          refine GL.py (PY.move rfl) rfl rfl ?_
          refine GL.py (PY.move rfl) rfl rfl ?_
          refine GL.py (PY.assign rfl) rfl rfl ?_
          refine GL.py (PY.assign rfl) rfl rfl ?_
          refine GL.py (PY.assign rfl) rfl rfl ?_
          refine GL.nil ?_
          change GW _ _ _ _ _ _
          refine GW.ret ?_
          have H := Option.some.inj H
          subst H
          exact RetQ.mk (.inl rfl) [.osl 1 (Enc.sz Int) 0 (List.length low9), .osl 6 (Enc.sz Int) 0 (List.length high10), .val (.int .i64 0)] _ [] ⟨Res.tmp rfl, Res.tmp rfl, Res.tmp rfl, trivial⟩ trivial (fz_tup (fz_go (fz_vec (α := Int) (l := low9) rfl rfl rfl rfl rfl rfl) (fz_go (fz_vec (α := Int) (l := high10) rfl rfl rfl rfl rfl rfl) (fz_go rfl rfl)))) ⟨rfl, rfl⟩

theorem adjointlaw9_PointsCounts_ok (fu : Nat) (p0 : SPoints) (r : Bool) (H : F.adjointlaw9_PointsCounts fu p0 = some r) : GM Try.prog 5 [.agg [.sl (List.length p0.Box) (encs p0.Box), .sl (List.length p0.Rows) (encs p0.Rows)]] [] (fun g st => g = .val (.bool r) ∧ st = []) := by
  unfold F.adjointlaw9_PointsCounts at H
  refine GM.of (N := 61) Try.func5 rfl rfl rfl (fun cx hro => ?_)
  change GW _ _ _ _ _ _
  refine GW.seq ?_
  refine GW.region ?_
  refine GL.e1 (W := []) (EF.box 0 rfl rfl rfl) rfl rfl ?_
  refine GL.py (PY.assign rfl) rfl rfl ?_
  refine GL.nil ?_
  change GW _ _ _ _ _ _
  refine GW.seq ?_
  obtain ⟨r1, hr1, H⟩ := bind_some H
  refine GW.region ?_
  refine GL.y (YL.loadAgg rfl rfl rfl Try.isAgg25 Try.sizeOf25 (Nat.le_of_ble_eq_true rfl) rfl) rfl rfl ?_
  refine GL.e (W := []) (EF.call 4 Try.call15 rfl (mapO_cons rfl rfl) (points_Count_ok fu p0 r1 hr1) (by rintro _ _ ⟨rfl, rfl⟩; rfl)) rfl rfl ?_
  rintro _ ⟨_, _, ⟨rfl, rfl⟩, rfl⟩
  refine GL.py (PY.move rfl) rfl rfl ?_
  refine GL.py (PY.extract rfl rfl) rfl rfl ?_
  refine GL.py (PY.extract rfl rfl) rfl rfl ?_
  refine GL.py (PY.assign rfl) rfl rfl ?_
  refine GL.py (PY.assign rfl) rfl rfl ?_
  refine GL.nil ?_
  change GW _ _ _ _ _ _
  refine GW.seq ?_
  obtain ⟨r3, hr3, H⟩ := bind_some H
  refine GW.region ?_
  refine GL.y (YL.loadAgg rfl rfl rfl Try.isAgg25 Try.sizeOf25 (Nat.le_of_ble_eq_true rfl) rfl) rfl rfl ?_
  refine GL.e (W := []) (EF.call 4 Try.call16 rfl (mapO_cons rfl rfl) (adjointref9_Count_ok fu p0 r3 hr3) (by rintro _ _ ⟨rfl, rfl⟩; rfl)) rfl rfl ?_
  rintro _ ⟨_, _, ⟨rfl, rfl⟩, rfl⟩
  refine GL.py (PY.move rfl) rfl rfl ?_
  refine GL.py (PY.extract rfl rfl) rfl rfl ?_
  refine GL.py (PY.extract rfl rfl) rfl rfl ?_
  refine GL.py (PY.assign rfl) rfl rfl ?_
  refine GL.py (PY.assign rfl) rfl rfl ?_
  refine GL.nil ?_
  change GW _ _ _ _ _ _
  refine GW.seq ?_
  refine GW.seq ?_
  obtain ⟨e7, he7, H⟩ := bind_some H
  obtain ⟨i7, rfl⟩ : ∃ z, z = e7 := ⟨_, rfl⟩
  refine GW.mono (Q := QB .normal (fun (q : Bool) => (⟨[(1, .loc 0 0), (35, .val (.bool q))], [(0, ⟨25, false, true, false, 0, [.sl (List.length p0.Box) (encs p0.Box), .sl (List.length p0.Rows) (encs p0.Rows)], none⟩)], []⟩ : St)) i7) ?_ ?_
  · have H := he7
    refine (Bool.eq_false_or_eq_true (r1.1 != r3.1)).elim (fun hg1 => ?_) (fun hg1 => ?_)
    · have H := condT hg1 H
      refine GW.draws [] mixed ?_
      change GH1 _ _ _ _ _ _ 15 _ _
      refine GH1.take 0 rfl (by decide +kernel) (by decide +kernel) (by decide +kernel) rfl rfl (by decide) ((PY.move rfl).yield _) ?_
      refine GH1.take 1 rfl (by decide +kernel) (by decide +kernel) (by decide +kernel) rfl rfl (by decide) ((PY.move rfl).yield _) ?_
      refine GH1.take 2 rfl (by decide +kernel) (by decide +kernel) (by decide +kernel) rfl rfl (by decide) ((PY.bin rfl rfl rfl).yield _) ?_
      refine GH1.take 3 rfl (by decide +kernel) (by decide +kernel) (by decide +kernel) rfl rfl (by decide) ((PY.move rfl).yield _) ?_
      refine GH1.lit 24 rfl hg1 ?_
      refine GH1.passu 4 rfl (by decide +kernel) (by decide +kernel) (by decide +kernel) rfl rfl (by decide) ?_
      refine GH1.passu 5 rfl (by decide +kernel) (by decide +kernel) (by decide +kernel) rfl rfl (by decide) ?_
      refine GH1.passu 6 rfl (by decide +kernel) (by decide +kernel) (by decide +kernel) rfl rfl (by decide) ?_
      refine GH1.take 7 rfl (by decide +kernel) (by decide +kernel) (by decide +kernel) rfl rfl (by decide) ((PY.pickT rfl rfl).yield _) ?_
      refine GH1.take 8 rfl (by decide +kernel) (by decide +kernel) (by decide +kernel) rfl rfl (by decide) ((PY.move rfl).yield _) ?_
      refine GH1.passu 9 rfl (by decide +kernel) (by decide +kernel) (by decide +kernel) rfl rfl (by decide) ?_
      refine GH1.passu 10 rfl (by decide +kernel) (by decide +kernel) (by decide +kernel) rfl rfl (by decide) ?_
      refine GH1.passu 11 rfl (by decide +kernel) (by decide +kernel) (by decide +kernel) rfl rfl (by decide) ?_
      refine GH1.passu 12 rfl (by decide +kernel) (by decide +kernel) (by decide +kernel) rfl rfl (by decide) ?_
      refine GH1.passu 13 rfl (by decide +kernel) (by decide +kernel) (by decide +kernel) rfl rfl (by decide) ?_
      refine GH1.take 14 rfl (by decide +kernel) (by decide +kernel) (by decide +kernel) rfl rfl (by decide) ((PY.pickT rfl rfl).yield _) ?_
      refine GH1.done (by decide +kernel) ?_
      cases H
      exact And.intro rfl ⟨⟨rfl, rfl, trivial⟩, ⟨rfl, trivial⟩, rfl⟩
    · have H := condF hg1 H
      refine (Bool.eq_false_or_eq_true (r1.2 != r3.2)).elim (fun hg2 => ?_) (fun hg2 => ?_)
      · have H := condT hg2 H
        refine GW.draws [] mixed ?_
        change GH1 _ _ _ _ _ _ 15 _ _
        refine GH1.take 0 rfl (by decide +kernel) (by decide +kernel) (by decide +kernel) rfl rfl (by decide) ((PY.move rfl).yield _) ?_
        refine GH1.take 1 rfl (by decide +kernel) (by decide +kernel) (by decide +kernel) rfl rfl (by decide) ((PY.move rfl).yield _) ?_
        refine GH1.take 2 rfl (by decide +kernel) (by decide +kernel) (by decide +kernel) rfl rfl (by decide) ((PY.bin rfl rfl rfl).yield _) ?_
        refine GH1.take 3 rfl (by decide +kernel) (by decide +kernel) (by decide +kernel) rfl rfl (by decide) ((PY.move rfl).yield _) ?_
        refine GH1.lit 24 rfl hg1 ?_
        refine GH1.take 4 rfl (by decide +kernel) (by decide +kernel) (by decide +kernel) rfl rfl (by decide) ((PY.move rfl).yield _) ?_
        refine GH1.take 5 rfl (by decide +kernel) (by decide +kernel) (by decide +kernel) rfl rfl (by decide) ((PY.move rfl).yield _) ?_
        refine GH1.take 6 rfl (by decide +kernel) (by decide +kernel) (by decide +kernel) rfl rfl (by decide) ((PY.bin rfl rfl rfl).yield _) ?_
        refine GH1.take 7 rfl (by decide +kernel) (by decide +kernel) (by decide +kernel) rfl rfl (by decide) ((PY.pickF rfl rfl).yield _) ?_
        refine GH1.take 8 rfl (by decide +kernel) (by decide +kernel) (by decide +kernel) rfl rfl (by decide) ((PY.move rfl).yield _) ?_
        refine GH1.lit 29 rfl hg2 ?_
        refine GH1.passu 9 rfl (by decide +kernel) (by decide +kernel) (by decide +kernel) rfl rfl (by decide) ?_
        refine GH1.passu 10 rfl (by decide +kernel) (by decide +kernel) (by decide +kernel) rfl rfl (by decide) ?_
        refine GH1.passu 11 rfl (by decide +kernel) (by decide +kernel) (by decide +kernel) rfl rfl (by decide) ?_
        refine GH1.passu 12 rfl (by decide +kernel) (by decide +kernel) (by decide +kernel) rfl rfl (by decide) ?_
        refine GH1.passu 13 rfl (by decide +kernel) (by decide +kernel) (by decide +kernel) rfl rfl (by decide) ?_
        refine GH1.take 14 rfl (by decide +kernel) (by decide +kernel) (by decide +kernel) rfl rfl (by decide) ((PY.pickT rfl rfl).yield _) ?_
        refine GH1.done (by decide +kernel) ?_
        cases H
        exact And.intro rfl ⟨⟨rfl, rfl, trivial⟩, ⟨rfl, trivial⟩, rfl⟩
      · have H := condF hg2 H
        obtain ⟨r5, hr5, H⟩ := bind_some H
        obtain ⟨r6, hr6, H⟩ := bind_some H
        refine GW.draws [] mixed ?_
        change GH1 _ _ _ _ _ _ 15 _ _
        refine GH1.take 0 rfl (by decide +kernel) (by decide +kernel) (by decide +kernel) rfl rfl (by decide) ((PY.move rfl).yield _) ?_
        refine GH1.take 1 rfl (by decide +kernel) (by decide +kernel) (by decide +kernel) rfl rfl (by decide) ((PY.move rfl).yield _) ?_
        refine GH1.take 2 rfl (by decide +kernel) (by decide +kernel) (by decide +kernel) rfl rfl (by decide) ((PY.bin rfl rfl rfl).yield _) ?_
        refine GH1.take 3 rfl (by decide +kernel) (by decide +kernel) (by decide +kernel) rfl rfl (by decide) ((PY.move rfl).yield _) ?_
        refine GH1.lit 24 rfl hg1 ?_
        refine GH1.take 4 rfl (by decide +kernel) (by decide +kernel) (by decide +kernel) rfl rfl (by decide) ((PY.move rfl).yield _) ?_
        refine GH1.take 5 rfl (by decide +kernel) (by decide +kernel) (by decide +kernel) rfl rfl (by decide) ((PY.move rfl).yield _) ?_
        refine GH1.take 6 rfl (by decide +kernel) (by decide +kernel) (by decide +kernel) rfl rfl (by decide) ((PY.bin rfl rfl rfl).yield _) ?_
        refine GH1.take 7 rfl (by decide +kernel) (by decide +kernel) (by decide +kernel) rfl rfl (by decide) ((PY.pickF rfl rfl).yield _) ?_
        refine GH1.take 8 rfl (by decide +kernel) (by decide +kernel) (by decide +kernel) rfl rfl (by decide) ((PY.move rfl).yield _) ?_
        refine GH1.lit 29 rfl hg2 ?_
        refine GH1.take 9 rfl (by decide +kernel) (by decide +kernel) (by decide +kernel) rfl rfl (by decide) (YL.loadAgg rfl rfl rfl Try.isAgg25 Try.sizeOf25 (Nat.le_of_ble_eq_true rfl) rfl) ?_
        refine GH1.take 11 rfl (by decide +kernel) (by decide +kernel) (by decide +kernel) rfl rfl (by decide) (YL.loadAgg rfl rfl rfl Try.isAgg25 Try.sizeOf25 (Nat.le_of_ble_eq_true rfl) rfl) ?_
        refine GH1.later ?_
        refine GH2.one 10 (by decide +kernel) rfl rfl (fun d e => by cases e; decide) (EF.call 4 Try.call17 rfl (mapO_cons rfl rfl) (points_Wrong_ok fu p0 r5 hr5) (by rintro _ _ ⟨rfl, rfl⟩; rfl)) ?_
        rintro _ ⟨_, _, ⟨rfl, rfl⟩, rfl⟩
        refine GH2.one 12 (by decide +kernel) rfl rfl (fun d e => by cases e; decide) (EF.call 4 Try.call9 rfl (mapO_cons rfl rfl) (adjointref9_Wrong_ok fu p0 r6 hr6) (by rintro _ _ ⟨rfl, rfl⟩; rfl)) ?_
        rintro _ ⟨_, _, ⟨rfl, rfl⟩, rfl⟩
        refine GH2.take 13 rfl (by decide +kernel) (by decide +kernel) (by decide +kernel) rfl rfl (by decide) (PY.bin rfl rfl rfl) ?_
        refine GH2.take 14 rfl (by decide +kernel) (by decide +kernel) (by decide +kernel) rfl rfl (by decide) (PY.pickF rfl rfl) ?_
        refine GH2.done (by decide +kernel) ?_
        cases H
        exact And.intro rfl ⟨⟨rfl, rfl, trivial⟩, ⟨rfl, trivial⟩, rfl⟩
  · rintro _ s2 ⟨rfl, hs⟩
    change GW _ _ _ _ _ _
    refine GW.weak _ hs ?_
    refine GW.weak ⟨[(1, .loc 0 0), (35, .val (.bool i7))], [(0, ⟨25, false, true, false, 0, [.sl (List.length p0.Box) (encs p0.Box), .sl (List.length p0.Rows) (encs p0.Rows)], none⟩)], []⟩ ⟨⟨rfl, rfl, trivial⟩, ⟨rfl, trivial⟩, rfl⟩ ?_
    change GW _ _ _ _ _ _
    refine GW.cond rfl (fun hc3 => ?_) (fun hc3 => ?_)
    · have H := condT hc3 H
      refine GW.seq ?_
      refine GW.region ?_
      refine GL.py (PY.assign rfl) rfl rfl ?_
      refine GL.nil ?_
      change GW _ _ _ _ _ _
      refine GW.ret ?_
      have H := Option.some.inj H
      subst H
      exact RetQ.mk (.inl rfl) [.val (.bool false)] _ [] ⟨Res.tmp rfl, trivial⟩ trivial rfl ⟨rfl, rfl⟩
    · have H := condF hc3 H
      refine GW.skip ?_
      change GW _ _ _ _ _ _
      refine GW.seq ?_
      obtain ⟨r14, hr14, H⟩ := bind_some H
      refine GW.region ?_
      refine GL.y (YL.loadAgg rfl rfl rfl Try.isAgg25 Try.sizeOf25 (Nat.le_of_ble_eq_true rfl) rfl) rfl rfl ?_
      refine GL.e (W := []) (EF.call 4 Try.call18 rfl (mapO_cons rfl rfl) (points_Ends_ok fu p0 r14 hr14) (by rintro _ _ ⟨rfl, rfl⟩; rfl)) rfl rfl ?_
      rintro _ ⟨_, _, ⟨rfl, rfl⟩, rfl⟩
      refine GL.py (PY.move rfl) rfl rfl ?_
      refine GL.py (PY.extract rfl rfl) rfl rfl ?_
      refine GL.py (PY.extract rfl rfl) rfl rfl ?_
      refine GL.py (PY.extract rfl rfl) rfl rfl ?_
      refine GL.py (PY.assign rfl) rfl rfl ?_
      refine GL.py (PY.assign rfl) rfl rfl ?_
      refine GL.py (PY.assign rfl) rfl rfl ?_
      refine GL.nil ?_
      change GW _ _ _ _ _ _
      refine GW.seq ?_
      obtain ⟨r16, hr16, H⟩ := bind_some H
      refine GW.region ?_
      refine GL.y (YL.loadAgg rfl rfl rfl Try.isAgg25 Try.sizeOf25 (Nat.le_of_ble_eq_true rfl) rfl) rfl rfl ?_
      refine GL.e (W := []) (EF.call 4 Try.call19 rfl (mapO_cons rfl rfl) (adjointref9_Ends_ok fu p0 r16 hr16) (by rintro _ _ ⟨rfl, rfl⟩; rfl)) rfl rfl ?_
      rintro _ ⟨_, _, ⟨rfl, rfl⟩, rfl⟩
      refine GL.py (PY.move rfl) rfl rfl ?_
      refine GL.py (PY.extract rfl rfl) rfl rfl ?_
      refine GL.py (PY.extract rfl rfl) rfl rfl ?_
      refine GL.py (PY.extract rfl rfl) rfl rfl ?_
      refine GL.py (PY.assign rfl) rfl rfl ?_
      refine GL.py (PY.assign rfl) rfl rfl ?_
      refine GL.py (PY.assign rfl) rfl rfl ?_
      refine GL.nil ?_
      change GW _ _ _ _ _ _
      refine GW.seq ?_
      obtain ⟨r18, hr18, H⟩ := bind_some H
      obtain ⟨e6, he6, H⟩ := bind_some H
      obtain ⟨i20, rfl⟩ : ∃ z, z = e6 := ⟨_, rfl⟩
      refine GW.mono (Q := QB .normal (fun (q : Bool) => (⟨[(2, .val (.bool q))], [], []⟩ : St)) i20) ?_ ?_
      · have H := he6
        refine GW.region ?_
        refine GL.py (PY.move rfl) rfl rfl ?_
        refine GL.py (PY.move rfl) rfl rfl ?_
        refine GL.e (W := []) (EF.call 4 Try.call20 rfl (mapO_cons rfl (mapO_cons rfl rfl)) (adjointref2_SameList_ok fu r14.1 r16.1 r18 hr18) (by rintro _ _ ⟨rfl, rfl⟩; rfl)) rfl rfl ?_
        rintro _ ⟨_, _, ⟨rfl, rfl⟩, rfl⟩
        refine GL.py (PY.move rfl) rfl rfl ?_
        refine (Bool.eq_false_or_eq_true r18).elim (fun hg4 => ?_) (fun hg4 => ?_)
        · have H := condT hg4 H
          obtain ⟨r19, hr19, H⟩ := bind_some H
          refine GL.lit 51 rfl hg4 ?_
          refine GL.py (PY.move rfl) rfl rfl ?_
          refine GL.py (PY.move rfl) rfl rfl ?_
          refine GL.e (W := []) (EF.call 4 Try.call20 rfl (mapO_cons rfl (mapO_cons rfl rfl)) (adjointref2_SameList_ok fu r14.2.1 r16.2.1 r19 hr19) (by rintro _ _ ⟨rfl, rfl⟩; rfl)) rfl rfl ?_
          rintro _ ⟨_, _, ⟨rfl, rfl⟩, rfl⟩
          refine GL.py (PY.pickT rfl rfl) rfl rfl ?_
          refine GL.py (PY.move rfl) rfl rfl ?_
          refine (Bool.eq_false_or_eq_true r19).elim (fun hg5 => ?_) (fun hg5 => ?_)
          · have H := condT hg5 H
            refine GL.lit 56 rfl hg5 ?_
            refine GL.py (PY.move rfl) rfl rfl ?_
            refine GL.py (PY.move rfl) rfl rfl ?_
            refine GL.py (PY.bin rfl rfl rfl) rfl rfl ?_
            refine GL.py (PY.pickT rfl rfl) rfl rfl ?_
            refine GL.py (PY.assign rfl) rfl rfl ?_
            refine GL.nil ?_
            cases H
            exact And.intro rfl ⟨⟨rfl, trivial⟩, trivial, rfl⟩
          · have H := condF hg5 H
            refine GL.lit 56 rfl hg5 ?_
            refine GL.nou rfl rfl ?_
            refine GL.nou rfl rfl ?_
            refine GL.nou rfl rfl ?_
            refine GL.py (PY.pickF rfl rfl) rfl rfl ?_
            refine GL.py (PY.assign rfl) rfl rfl ?_
            refine GL.nil ?_
            cases H
            exact And.intro rfl ⟨⟨rfl, trivial⟩, trivial, rfl⟩
        · have H := condF hg4 H
          refine GL.lit 51 rfl hg4 ?_
          refine GL.nou rfl rfl ?_
          refine GL.nou rfl rfl ?_
          refine GL.nou rfl rfl ?_
          refine GL.py (PY.pickF rfl rfl) rfl rfl ?_
          refine GL.py (PY.move rfl) rfl rfl ?_
          refine GL.nou rfl rfl ?_
          refine GL.nou rfl rfl ?_
          refine GL.nou rfl rfl ?_
          refine GL.py (PY.pickF rfl rfl) rfl rfl ?_
          refine GL.py (PY.assign rfl) rfl rfl ?_
          refine GL.nil ?_
          cases H
          exact And.intro rfl ⟨⟨rfl, trivial⟩, trivial, rfl⟩
      · rintro _ s2 ⟨rfl, hs⟩
        change GW _ _ _ _ _ _
        refine GW.weak _ hs ?_
        refine GW.weak ⟨[(2, .val (.bool i20))], [], []⟩ ⟨⟨rfl, trivial⟩, trivial, rfl⟩ ?_
        change GW _ _ _ _ _ _
        refine GW.ret ?_
        have H := Option.some.inj H
        subst H
        exact RetQ.mk (.inl rfl) [.val (.bool i20)] _ [] ⟨Res.tmp rfl, trivial⟩ trivial rfl ⟨rfl, rfl⟩


end Go.Proofs.Ytllnemgkfdgljaa
