/-
  Each function returns what its partial function of plain data says, where that says something (printed by wip/tools/gen.py).
-/
import Derived.Test.YtimngflnekddpaaToF
import Derived.Test.YtimngflnekddpaaProg
namespace Go.Proofs.Ytimngflnekddpaa
open Go.AM
set_option maxHeartbeats 4000000
set_option linter.unusedVariables false

theorem mixed : Try.prog.follows .mixedOrders = true := by kernel_rfl
theorem info3 : (Try.prog.info? 3).map (fun i => (i.zero, i.size, i.bytes)) = some (some (.int .i64 0), 1, 8) := by kernel_rfl
theorem info4 : (Try.prog.info? 4).map (fun i => (i.zero, i.size, i.bytes)) = some (some (.bool false), 1, 1) := by kernel_rfl

theorem SameList_ok (fu : Nat) (a0 : (List Int)) (b0 : (List Int)) (r : Bool) (H : F.SameList fu a0 b0 = some r) : GM Try.prog 6 [.sl (List.length a0) (encs a0), .sl (List.length b0) (encs b0)] [] (fun g st => g = .val (.bool r) ∧ st = []) := by
  unfold F.SameList at H
  refine GM.of (N := 26) Try.func6 rfl rfl rfl (fun cx => ?_)
  change GW _ _ _ _ _ _
  refine GW.seq ?_
  refine GW.region ?_
  refine GL.py (PY.assign rfl) rfl rfl ?_
  refine GL.nil ?_
  change GW _ _ _ _ _ _
  refine GW.seq ?_
  refine GW.seq ?_
  refine GW.region ?_
  refine GL.py (PY.move rfl) rfl rfl ?_
  refine GL.py (PY.len rfl rfl Try.underlying22) rfl rfl ?_
  refine GL.py (PY.move rfl) rfl rfl ?_
  refine GL.py (PY.len rfl rfl Try.underlying22) rfl rfl ?_
  refine GL.py (PY.bin rfl rfl rfl) rfl rfl ?_
  refine GL.nil ?_
  change GW _ _ _ _ _ _
  refine GW.cond rfl (fun hc1 => ?_) (fun hc1 => ?_)
  · have H := condT hc1 H
    refine GW.seq ?_
    refine GW.region ?_
    refine GL.py (PY.assign rfl) rfl rfl ?_
    refine GL.nil ?_
    change GW _ _ _ _ _ _
    refine GW.ret ?_
    cases H
    exact RetQ.mk (.inl rfl) [.val (.bool false)] _ [] ⟨Res.tmp rfl, trivial⟩ trivial rfl ⟨rfl, rfl⟩
  · have H := condF hc1 H
    refine GW.skip ?_
    change GW _ _ _ _ _ _
    refine GW.seq ?_
    refine GW.seq ?_
    refine GW.region ?_
    refine GL.py (PY.move rfl) rfl rfl ?_
    refine GL.py (PY.len rfl rfl Try.underlying22) rfl rfl ?_
    refine GL.py (PY.move rfl) rfl rfl ?_
    refine GL.nil ?_
    change GW _ _ _ _ _ _
    refine GW.block ?_
    obtain ⟨e4, he4, Hb, Hr⟩ := bindE_some H
    refine GW.weak ((fun (q : Int) => (⟨[(0, .sl (List.length a0) (encs a0)), (1, .sl (List.length b0) (encs b0)), (12, .val (.int .i64 (List.length a0 : Int))), (13, .val (.int .i64 q))], []⟩ : St)) 0) ⟨⟨rfl, rfl, rfl, rfl, trivial⟩, trivial⟩ ?_
    refine GW.loopF (fun (q : Int) => (⟨[(0, .sl (List.length a0) (encs a0)), (1, .sl (List.length b0) (encs b0)), (12, .val (.int .i64 (List.length a0 : Int))), (13, .val (.int .i64 q))], []⟩ : St)) (QJ (.exit 0) (fun (q : Unit) => (⟨[], []⟩ : St)) (fun r2 _ s2 => RetQ Try.prog Try.f6 (fun g st => g = .val (.bool r2) ∧ st = []) .ret s2)) he4 (fun x o hb => ?_) (fun ex s2 _ hx => ?_)
    · obtain ⟨i1, rfl⟩ : ∃ z, z = x := ⟨_, rfl⟩
      have H := hb
      unfold F.SameList_l1 at H
      try dsimp only at H
      refine GW.weak ⟨[(0, .sl (List.length a0) (encs a0)), (1, .sl (List.length b0) (encs b0)), (12, .val (.int .i64 (List.length a0 : Int))), (13, .val (.int .i64 i1))], []⟩ ⟨⟨rfl, rfl, rfl, rfl, trivial⟩, trivial⟩ ?_
      refine GW.seq ?_
      refine GW.region ?_
      refine GL.py (PY.bin rfl rfl rfl) rfl rfl ?_
      refine GL.nil ?_
      change GW _ _ _ _ _ _
      refine GW.seq ?_
      refine GW.cond rfl (fun hc2 => ?_) (fun hc2 => ?_)
      · have H := condT hc2 H
        refine GW.skip ?_
        change GW _ _ _ _ _ _
        refine GW.seq ?_
        refine GW.block ?_
        refine GW.seq ?_
        refine GW.region ?_
        refine GL.py (PY.move rfl) rfl rfl ?_
        refine GL.py (PY.assign rfl) rfl rfl ?_
        refine GL.nil ?_
        change GW _ _ _ _ _ _
        refine GW.seq ?_
        obtain ⟨x2, hx2, H⟩ := bind_some H
        obtain ⟨x3, hx3, H⟩ := bind_some H
        refine GW.draws [] mixed ?_
        change GH1 _ _ _ _ _ _ 9 _ _
        refine GH1.take 0 rfl (by decide +kernel) (by decide +kernel) (by decide +kernel) rfl rfl (by decide) ((PY.move rfl).yield _) ?_
        refine GH1.take 1 rfl (by decide +kernel) (by decide +kernel) (by decide +kernel) rfl rfl (by decide) ((PY.move rfl).yield _) ?_
        refine GH1.take 2 rfl (by decide +kernel) (by decide +kernel) (by decide +kernel) rfl rfl (by decide) ((PY.index rfl rfl rfl (idx_spec hx2).1 (idx_spec hx2).2.1 Try.underlying22 Try.sizeOf3).yield _) ?_
        refine GH1.take 3 rfl (by decide +kernel) (by decide +kernel) (by decide +kernel) rfl rfl (by decide) (YT.elt (α := Int) rfl hx2 rfl Try.isAgg3) ?_
        refine GH1.take 4 rfl (by decide +kernel) (by decide +kernel) (by decide +kernel) rfl rfl (by decide) ((PY.move rfl).yield _) ?_
        refine GH1.take 5 rfl (by decide +kernel) (by decide +kernel) (by decide +kernel) rfl rfl (by decide) ((PY.move rfl).yield _) ?_
        refine GH1.take 6 rfl (by decide +kernel) (by decide +kernel) (by decide +kernel) rfl rfl (by decide) ((PY.index rfl rfl rfl (idx_spec hx3).1 (idx_spec hx3).2.1 Try.underlying22 Try.sizeOf3).yield _) ?_
        refine GH1.take 7 rfl (by decide +kernel) (by decide +kernel) (by decide +kernel) rfl rfl (by decide) (YT.elt (α := Int) rfl hx3 rfl Try.isAgg3) ?_
        refine GH1.take 8 rfl (by decide +kernel) (by decide +kernel) (by decide +kernel) rfl rfl (by decide) ((PY.bin rfl rfl rfl).yield _) ?_
        refine GH1.done (by decide +kernel) ?_
        change GW _ _ _ _ _ _
        refine GW.cond rfl (fun hc3 => ?_) (fun hc3 => ?_)
        · have H := condT hc3 H
          refine GW.seq ?_
          refine GW.region ?_
          refine GL.py (PY.assign rfl) rfl rfl ?_
          refine GL.nil ?_
          change GW _ _ _ _ _ _
          refine GW.ret ?_
          cases H
          exact And.intro ret_ne (And.intro rfl (RetQ.mk (.inl rfl) [.val (.bool false)] _ [] ⟨Res.tmp rfl, trivial⟩ trivial rfl ⟨rfl, rfl⟩))
        · have H := condF hc3 H
          refine GW.skip ?_
          change GW _ _ _ _ _ _
          refine GW.region ?_
          refine GL.py (PY.bin rfl rfl rfl) rfl rfl ?_
          refine GL.py (PY.move rfl) rfl rfl ?_
          refine GL.nil ?_
          cases H
          exact And.intro rfl ⟨⟨rfl, rfl, rfl, rfl, trivial⟩, trivial⟩
      · have H := condF hc2 H
        refine GW.exit ?_
        cases H
        exact And.intro exit_ne (And.intro rfl ⟨trivial, trivial⟩)
    · cases e4 with
      | ret r2 =>
        obtain ⟨rfl, hx⟩ := hx
        have H := Hr r2 rfl
        subst H
        exact hx
      | brk b2 =>
        obtain ⟨rfl, hs⟩ := hx
        have H := Hb b2 rfl
        change GW _ _ _ _ _ _
        refine GW.weak _ hs ?_
        refine GW.weak ⟨[], []⟩ ⟨trivial, trivial⟩ ?_
        change GW _ _ _ _ _ _
        refine GW.seq ?_
        refine GW.region ?_
        refine GL.py (PY.assign rfl) rfl rfl ?_
        refine GL.nil ?_
        change GW _ _ _ _ _ _
        refine GW.ret ?_
        cases H
        exact RetQ.mk (.inl rfl) [.val (.bool true)] _ [] ⟨Res.tmp rfl, trivial⟩ trivial rfl ⟨rfl, rfl⟩

theorem trainOrder_ok (fu : Nat) (seed0 : ByteArray) (rows0 : Int) (epoch0 : Int) (r : ((List Int) × Int)) (H : F.trainOrder fu seed0 rows0 epoch0 = some r) : GM Try.prog 4 [.val (.string seed0), .val (.int .i64 rows0), .val (.int .i64 epoch0)] [] (fun g st => g = .tup [.fr (.sl (List.length r.1) (encs r.1)), .val (.int .i64 r.2)] ∧ st = []) := by
  unfold F.trainOrder at H
  refine GM.of (N := 91) Try.func4 rfl rfl rfl (fun cx => ?_)
  change GW _ _ _ _ _ _
  refine GW.seq ?_
  refine GW.region ?_
  refine GL.py (PY.assign rfl) rfl rfl ?_
  refine GL.py (PY.assign rfl) rfl rfl ?_
  refine GL.nil ?_
  change GW _ _ _ _ _ _
  refine GW.seq ?_
  refine GW.seq ?_
  obtain ⟨e15, he15, H⟩ := bind_some H
  obtain ⟨i1, rfl⟩ : ∃ z, z = e15 := ⟨_, rfl⟩
  refine GW.mono (Q := QB .normal (fun (q : Bool) => (⟨[(0, .val (.string seed0)), (1, .val (.int .i64 rows0)), (2, .val (.int .i64 epoch0)), (27, .val (.bool q))], []⟩ : St)) i1) ?_ ?_
  · have H := he15
    refine (Bool.eq_false_or_eq_true (decide (rows0 < 0))).elim (fun hg1 => ?_) (fun hg1 => ?_)
    · have H := condT hg1 H
      refine GW.region ?_
      refine GL.py (PY.move rfl) rfl rfl ?_
      refine GL.py (PY.bin rfl rfl rfl) rfl rfl ?_
      refine GL.py (PY.move rfl) rfl rfl ?_
      refine GL.lit 16 rfl hg1 ?_
      refine GL.no rfl ?_
      refine GL.no rfl ?_
      refine GL.py (PY.pickT rfl rfl) rfl rfl ?_
      refine GL.py (PY.move rfl) rfl rfl ?_
      refine GL.no rfl ?_
      refine GL.no rfl ?_
      refine GL.py (PY.pickT rfl rfl) rfl rfl ?_
      refine GL.py (PY.move rfl) rfl rfl ?_
      refine GL.no rfl ?_
      refine GL.no rfl ?_
      refine GL.py (PY.pickT rfl rfl) rfl rfl ?_
      refine GL.nil ?_
      cases H
      exact And.intro rfl ⟨⟨rfl, rfl, rfl, rfl, trivial⟩, trivial⟩
    · have H := condF hg1 H
      refine (Bool.eq_false_or_eq_true (decide (rows0 > 4096))).elim (fun hg2 => ?_) (fun hg2 => ?_)
      · have H := condT hg2 H
        refine GW.region ?_
        refine GL.py (PY.move rfl) rfl rfl ?_
        refine GL.py (PY.bin rfl rfl rfl) rfl rfl ?_
        refine GL.py (PY.move rfl) rfl rfl ?_
        refine GL.lit 16 rfl hg1 ?_
        refine GL.py (PY.move rfl) rfl rfl ?_
        refine GL.py (PY.bin rfl rfl rfl) rfl rfl ?_
        refine GL.py (PY.pickF rfl rfl) rfl rfl ?_
        refine GL.py (PY.move rfl) rfl rfl ?_
        refine GL.lit 20 rfl hg2 ?_
        refine GL.no rfl ?_
        refine GL.no rfl ?_
        refine GL.py (PY.pickT rfl rfl) rfl rfl ?_
        refine GL.py (PY.move rfl) rfl rfl ?_
        refine GL.no rfl ?_
        refine GL.no rfl ?_
        refine GL.py (PY.pickT rfl rfl) rfl rfl ?_
        refine GL.nil ?_
        cases H
        exact And.intro rfl ⟨⟨rfl, rfl, rfl, rfl, trivial⟩, trivial⟩
      · have H := condF hg2 H
        refine (Bool.eq_false_or_eq_true (decide (epoch0 < 0))).elim (fun hg3 => ?_) (fun hg3 => ?_)
        · have H := condT hg3 H
          refine GW.region ?_
          refine GL.py (PY.move rfl) rfl rfl ?_
          refine GL.py (PY.bin rfl rfl rfl) rfl rfl ?_
          refine GL.py (PY.move rfl) rfl rfl ?_
          refine GL.lit 16 rfl hg1 ?_
          refine GL.py (PY.move rfl) rfl rfl ?_
          refine GL.py (PY.bin rfl rfl rfl) rfl rfl ?_
          refine GL.py (PY.pickF rfl rfl) rfl rfl ?_
          refine GL.py (PY.move rfl) rfl rfl ?_
          refine GL.lit 20 rfl hg2 ?_
          refine GL.py (PY.move rfl) rfl rfl ?_
          refine GL.py (PY.bin rfl rfl rfl) rfl rfl ?_
          refine GL.py (PY.pickF rfl rfl) rfl rfl ?_
          refine GL.py (PY.move rfl) rfl rfl ?_
          refine GL.lit 24 rfl hg3 ?_
          refine GL.no rfl ?_
          refine GL.no rfl ?_
          refine GL.py (PY.pickT rfl rfl) rfl rfl ?_
          refine GL.nil ?_
          cases H
          exact And.intro rfl ⟨⟨rfl, rfl, rfl, rfl, trivial⟩, trivial⟩
        · have H := condF hg3 H
          refine GW.region ?_
          refine GL.py (PY.move rfl) rfl rfl ?_
          refine GL.py (PY.bin rfl rfl rfl) rfl rfl ?_
          refine GL.py (PY.move rfl) rfl rfl ?_
          refine GL.lit 16 rfl hg1 ?_
          refine GL.py (PY.move rfl) rfl rfl ?_
          refine GL.py (PY.bin rfl rfl rfl) rfl rfl ?_
          refine GL.py (PY.pickF rfl rfl) rfl rfl ?_
          refine GL.py (PY.move rfl) rfl rfl ?_
          refine GL.lit 20 rfl hg2 ?_
          refine GL.py (PY.move rfl) rfl rfl ?_
          refine GL.py (PY.bin rfl rfl rfl) rfl rfl ?_
          refine GL.py (PY.pickF rfl rfl) rfl rfl ?_
          refine GL.py (PY.move rfl) rfl rfl ?_
          refine GL.lit 24 rfl hg3 ?_
          refine GL.py (PY.move rfl) rfl rfl ?_
          refine GL.py (PY.bin rfl rfl rfl) rfl rfl ?_
          refine GL.py (PY.pickF rfl rfl) rfl rfl ?_
          refine GL.nil ?_
          cases H
          exact And.intro rfl ⟨⟨rfl, rfl, rfl, rfl, trivial⟩, trivial⟩
  · rintro _ s2 ⟨rfl, hs⟩
    change GW _ _ _ _ _ _
    refine GW.weak _ hs ?_
    refine GW.weak ⟨[(0, .val (.string seed0)), (1, .val (.int .i64 rows0)), (2, .val (.int .i64 epoch0)), (27, .val (.bool i1))], []⟩ ⟨⟨rfl, rfl, rfl, rfl, trivial⟩, trivial⟩ ?_
    change GW _ _ _ _ _ _
    refine GW.cond rfl (fun hc4 => ?_) (fun hc4 => ?_)
    · have H := condT hc4 H
      refine GW.seq ?_
      refine GW.region ?_
      refine GL.py (PY.assign rfl) rfl rfl ?_
      refine GL.py (PY.assign rfl) rfl rfl ?_
      refine GL.nil ?_
      change GW _ _ _ _ _ _
      refine GW.ret ?_
      cases H
      exact RetQ.mk (.inl rfl) [.val (.slice none 0 0), .val (.int .i64 4)] _ [] ⟨Res.tmp rfl, Res.tmp rfl, trivial⟩ trivial (fz_tup (fz_go rfl (fz_go rfl rfl))) ⟨rfl, rfl⟩
    · have H := condF hc4 H
      refine GW.skip ?_
      change GW _ _ _ _ _ _
      refine GW.seq ?_
      refine GW.region ?_
      refine GL.py (PY.assign rfl) rfl rfl ?_
      refine GL.nil ?_
      change GW _ _ _ _ _ _
      refine GW.seq ?_
      refine GW.seq ?_
      refine GW.region ?_
      refine GL.py (PY.move rfl) rfl rfl ?_
      refine GL.py (PY.lenS rfl Try.underlying9) rfl rfl ?_
      refine GL.py (PY.move rfl) rfl rfl ?_
      refine GL.nil ?_
      change GW _ _ _ _ _ _
      refine GW.block ?_
      obtain ⟨e6, he6, H⟩ := bind_some H
      refine GW.weak ((fun (q : Int × Int) => (⟨[(0, .val (.string seed0)), (1, .val (.int .i64 rows0)), (2, .val (.int .i64 epoch0)), (8, .val (.int .u64 q.1)), (29, .val (.int .i64 (ByteArray.size seed0 : Int))), (30, .val (.int .i64 q.2))], []⟩ : St)) (0, 0)) ⟨⟨rfl, rfl, rfl, rfl, rfl, rfl, trivial⟩, trivial⟩ ?_
      refine GW.loopF (fun (q : Int × Int) => (⟨[(0, .val (.string seed0)), (1, .val (.int .i64 rows0)), (2, .val (.int .i64 epoch0)), (8, .val (.int .u64 q.1)), (29, .val (.int .i64 (ByteArray.size seed0 : Int))), (30, .val (.int .i64 q.2))], []⟩ : St)) (QB (.exit 0) (fun (q : Int) => (⟨[(1, .val (.int .i64 rows0)), (2, .val (.int .i64 epoch0)), (8, .val (.int .u64 q))], []⟩ : St))) he6 (fun x o hb => ?_) (fun ex s2 _ hx => ?_)
      · obtain ⟨s2, i3⟩ := x
        have H := hb
        unfold F.trainOrder_l1 at H
        try dsimp only at H
        refine GW.weak ⟨[(0, .val (.string seed0)), (1, .val (.int .i64 rows0)), (2, .val (.int .i64 epoch0)), (8, .val (.int .u64 s2)), (29, .val (.int .i64 (ByteArray.size seed0 : Int))), (30, .val (.int .i64 i3))], []⟩ ⟨⟨rfl, rfl, rfl, rfl, rfl, rfl, trivial⟩, trivial⟩ ?_
        refine GW.seq ?_
        refine GW.region ?_
        refine GL.py (PY.bin rfl rfl rfl) rfl rfl ?_
        refine GL.nil ?_
        change GW _ _ _ _ _ _
        refine GW.seq ?_
        refine GW.cond rfl (fun hc5 => ?_) (fun hc5 => ?_)
        · have H := condT hc5 H
          refine GW.skip ?_
          change GW _ _ _ _ _ _
          refine GW.seq ?_
          refine GW.block ?_
          refine GW.seq ?_
          refine GW.region ?_
          refine GL.py (PY.move rfl) rfl rfl ?_
          refine GL.py (PY.assign rfl) rfl rfl ?_
          refine GL.nil ?_
          change GW _ _ _ _ _ _
          obtain ⟨c5, hc5, H⟩ := bind_some H
          refine GW.region ?_
          refine GL.py (PY.move rfl) rfl rfl ?_
          refine GL.py (PY.bin rfl rfl rfl) rfl rfl ?_
          refine GL.py (PY.move rfl) rfl rfl ?_
          refine GL.py (PY.move rfl) rfl rfl ?_
          refine GL.py (PY.strIndex rfl rfl (bidx_spec hc5).1 (bidx_spec hc5).2 Try.underlying9) rfl rfl ?_
          refine GL.py (PY.conv rfl Try.underlying5 Try.underlying29) rfl rfl ?_
          refine GL.py (PY.bin rfl rfl rfl) rfl rfl ?_
          refine GL.py (PY.bin rfl rfl rfl) rfl rfl ?_
          refine GL.py (PY.assign rfl) rfl rfl ?_
          refine GL.nil ?_
          change GW _ _ _ _ _ _
          refine GW.region ?_
          refine GL.py (PY.bin rfl rfl rfl) rfl rfl ?_
          refine GL.py (PY.move rfl) rfl rfl ?_
          refine GL.nil ?_
          cases H
          exact And.intro rfl ⟨⟨rfl, rfl, rfl, rfl, rfl, rfl, trivial⟩, trivial⟩
        · have H := condF hc5 H
          refine GW.exit ?_
          cases H
          exact And.intro exit_ne (And.intro rfl ⟨⟨rfl, rfl, rfl, trivial⟩, trivial⟩)
      · obtain ⟨rfl, hs⟩ := hx
        obtain ⟨s4, rfl⟩ : ∃ z, z = e6 := ⟨_, rfl⟩
        change GW _ _ _ _ _ _
        refine GW.weak _ hs ?_
        refine GW.weak ⟨[(1, .val (.int .i64 rows0)), (2, .val (.int .i64 epoch0)), (8, .val (.int .u64 s4))], []⟩ ⟨⟨rfl, rfl, rfl, trivial⟩, trivial⟩ ?_
        change GW _ _ _ _ _ _
        refine GW.seq ?_
        refine GW.region ?_
        refine GL.py (PY.move rfl) rfl rfl ?_
        refine GL.py (PY.bin rfl rfl rfl) rfl rfl ?_
        refine GL.py (PY.move rfl) rfl rfl ?_
        refine GL.py (PY.conv rfl Try.underlying3 Try.underlying29) rfl rfl ?_
        refine GL.py (PY.bin rfl rfl rfl) rfl rfl ?_
        refine GL.py (PY.bin rfl rfl rfl) rfl rfl ?_
        refine GL.py (PY.assign rfl) rfl rfl ?_
        refine GL.nil ?_
        change GW _ _ _ _ _ _
        refine GW.seq ?_
        obtain ⟨_, hm7, H⟩ := bind_some H
        replace hm7 := chk_spec hm7
        refine GW.region ?_
        refine GL.py (PY.move rfl) rfl rfl ?_
        refine GL.e1 (W := []) (ET.make (α := Int) (x := (0 : Int)) 1 rfl rfl Try.underlying22 info3 rfl rfl hm7.1 hm7.2.1 hm7.2.2 rfl) rfl rfl ?_
        refine GL.py (PY.assign rfl) rfl rfl ?_
        refine GL.nil ?_
        change GW _ _ _ _ _ _
        refine GW.seq ?_
        refine GW.seq ?_
        refine GW.region ?_
        refine GL.py (PY.move rfl) rfl rfl ?_
        refine GL.py (PY.len rfl rfl Try.underlying22) rfl rfl ?_
        refine GL.py (PY.move rfl) rfl rfl ?_
        refine GL.nil ?_
        change GW _ _ _ _ _ _
        refine GW.block ?_
        obtain ⟨e10, he10, H⟩ := bind_some H
        refine GW.weak ((fun (q : Int × (List Int)) => (⟨[(1, .val (.int .i64 rows0)), (8, .val (.int .u64 (IntKind.u64.wrap ((IntKind.u64.wrap ((IntKind.u64.wrap (s4 * 1099511628211)) + (IntKind.u64.wrap epoch0))) + 1)))), (10, .osl 1 (Enc.sz Int) 0 (List.length q.2)), (51, .val (.int .i64 (List.length (List.replicate (Int.toNat rows0) (0 : Int)) : Int))), (52, .val (.int .i64 q.1))], [(1, ⟨3, true, true, true, Enc.sz Int, encs q.2⟩)]⟩ : St)) (0, List.replicate (Int.toNat rows0) (0 : Int))) ⟨⟨rfl, rfl, rfl, rfl, rfl, trivial⟩, ⟨rfl, trivial⟩⟩ ?_
        refine GW.loopF (fun (q : Int × (List Int)) => (⟨[(1, .val (.int .i64 rows0)), (8, .val (.int .u64 (IntKind.u64.wrap ((IntKind.u64.wrap ((IntKind.u64.wrap (s4 * 1099511628211)) + (IntKind.u64.wrap epoch0))) + 1)))), (10, .osl 1 (Enc.sz Int) 0 (List.length q.2)), (51, .val (.int .i64 (List.length (List.replicate (Int.toNat rows0) (0 : Int)) : Int))), (52, .val (.int .i64 q.1))], [(1, ⟨3, true, true, true, Enc.sz Int, encs q.2⟩)]⟩ : St)) (QB (.exit 2) (fun (q : (List Int)) => (⟨[(1, .val (.int .i64 rows0)), (8, .val (.int .u64 (IntKind.u64.wrap ((IntKind.u64.wrap ((IntKind.u64.wrap (s4 * 1099511628211)) + (IntKind.u64.wrap epoch0))) + 1)))), (10, .osl 1 (Enc.sz Int) 0 (List.length q))], [(1, ⟨3, true, true, true, Enc.sz Int, encs q⟩)]⟩ : St))) he10 (fun x o hb => ?_) (fun ex s2 _ hx => ?_)
        · obtain ⟨i6, l7⟩ := x
          have H := hb
          unfold F.trainOrder_l2 at H
          try dsimp only at H
          refine GW.weak ⟨[(1, .val (.int .i64 rows0)), (8, .val (.int .u64 (IntKind.u64.wrap ((IntKind.u64.wrap ((IntKind.u64.wrap (s4 * 1099511628211)) + (IntKind.u64.wrap epoch0))) + 1)))), (10, .osl 1 (Enc.sz Int) 0 (List.length l7)), (51, .val (.int .i64 (List.length (List.replicate (Int.toNat rows0) (0 : Int)) : Int))), (52, .val (.int .i64 i6))], [(1, ⟨3, true, true, true, Enc.sz Int, encs l7⟩)]⟩ ⟨⟨rfl, rfl, rfl, rfl, rfl, trivial⟩, ⟨rfl, trivial⟩⟩ ?_
          refine GW.seq ?_
          refine GW.region ?_
          refine GL.py (PY.bin rfl rfl rfl) rfl rfl ?_
          refine GL.nil ?_
          change GW _ _ _ _ _ _
          refine GW.seq ?_
          refine GW.cond rfl (fun hc9 => ?_) (fun hc9 => ?_)
          · have H := condT hc9 H
            refine GW.skip ?_
            change GW _ _ _ _ _ _
            refine GW.seq ?_
            refine GW.block ?_
            refine GW.seq ?_
            refine GW.region ?_
            refine GL.py (PY.move rfl) rfl rfl ?_
            refine GL.py (PY.assign rfl) rfl rfl ?_
            refine GL.nil ?_
            change GW _ _ _ _ _ _
            obtain ⟨x9, hx9, H⟩ := bind_some H
            refine GW.region ?_
            refine GL.py (PY.move rfl) rfl rfl ?_
            refine GL.py (PY.move rfl) rfl rfl ?_
            refine GL.py (PY.move rfl) rfl rfl ?_
            refine GL.py (PY.index rfl rfl rfl (idx_spec hx9).1 (idx_spec hx9).2.1 Try.underlying22 Try.sizeOf3) rfl rfl ?_
            refine GL.e0 (ET.set (α := Int) (x := i6) (W := [1]) rfl rfl rfl rfl rfl rfl rfl rfl rfl (idx_spec hx9).1 (idx_spec hx9).2.1 Try.sizeOf3 rfl) rfl ?_
            refine GL.resl 10 rfl (show List.length l7 = List.length (List.set l7 (Int.toNat i6) i6) from List.length_set.symm) ?_
            refine GL.resl 55 rfl (show List.length l7 = List.length (List.set l7 (Int.toNat i6) i6) from List.length_set.symm) ?_
            refine GL.nil ?_
            change GW _ _ _ _ _ _
            refine GW.region ?_
            refine GL.py (PY.bin rfl rfl rfl) rfl rfl ?_
            refine GL.py (PY.move rfl) rfl rfl ?_
            refine GL.nil ?_
            cases H
            exact And.intro rfl ⟨⟨rfl, rfl, rfl, rfl, rfl, trivial⟩, ⟨rfl, trivial⟩⟩
          · have H := condF hc9 H
            refine GW.exit ?_
            cases H
            exact And.intro exit_ne (And.intro rfl ⟨⟨rfl, rfl, rfl, trivial⟩, ⟨rfl, trivial⟩⟩)
        · obtain ⟨rfl, hs⟩ := hx
          obtain ⟨l8, rfl⟩ : ∃ z, z = e10 := ⟨_, rfl⟩
          change GW _ _ _ _ _ _
          refine GW.weak _ hs ?_
          refine GW.weak ⟨[(1, .val (.int .i64 rows0)), (8, .val (.int .u64 (IntKind.u64.wrap ((IntKind.u64.wrap ((IntKind.u64.wrap (s4 * 1099511628211)) + (IntKind.u64.wrap epoch0))) + 1)))), (10, .osl 1 (Enc.sz Int) 0 (List.length l8))], [(1, ⟨3, true, true, true, Enc.sz Int, encs l8⟩)]⟩ ⟨⟨rfl, rfl, rfl, trivial⟩, ⟨rfl, trivial⟩⟩ ?_
          change GW _ _ _ _ _ _
          refine GW.seq ?_
          refine GW.seq ?_
          refine GW.region ?_
          refine GL.py (PY.move rfl) rfl rfl ?_
          refine GL.py (PY.bin rfl rfl rfl) rfl rfl ?_
          refine GL.py (PY.assign rfl) rfl rfl ?_
          refine GL.nil ?_
          change GW _ _ _ _ _ _
          refine GW.block ?_
          obtain ⟨e14, he14, H⟩ := bind_some H
          refine GW.weak ((fun (q : Int × Int × (List Int)) => (⟨[(8, .val (.int .u64 q.1)), (10, .osl 1 (Enc.sz Int) 0 (List.length q.2.2)), (12, .val (.int .i64 q.2.1))], [(1, ⟨3, true, true, true, Enc.sz Int, encs q.2.2⟩)]⟩ : St)) (IntKind.u64.wrap ((IntKind.u64.wrap ((IntKind.u64.wrap (s4 * 1099511628211)) + (IntKind.u64.wrap epoch0))) + 1), IntKind.i64.wrap (rows0 - 1), l8)) ⟨⟨rfl, rfl, rfl, trivial⟩, ⟨rfl, trivial⟩⟩ ?_
          refine GW.loopF (fun (q : Int × Int × (List Int)) => (⟨[(8, .val (.int .u64 q.1)), (10, .osl 1 (Enc.sz Int) 0 (List.length q.2.2)), (12, .val (.int .i64 q.2.1))], [(1, ⟨3, true, true, true, Enc.sz Int, encs q.2.2⟩)]⟩ : St)) (QB (.exit 4) (fun (q : (List Int)) => (⟨[(10, .osl 1 (Enc.sz Int) 0 (List.length q))], [(1, ⟨3, true, true, true, Enc.sz Int, encs q⟩)]⟩ : St))) he14 (fun x o hb => ?_) (fun ex s2 _ hx => ?_)
          · obtain ⟨s10, i11, l12⟩ := x
            have H := hb
            unfold F.trainOrder_l3 at H
            try dsimp only at H
            refine GW.weak ⟨[(8, .val (.int .u64 s10)), (10, .osl 1 (Enc.sz Int) 0 (List.length l12)), (12, .val (.int .i64 i11))], [(1, ⟨3, true, true, true, Enc.sz Int, encs l12⟩)]⟩ ⟨⟨rfl, rfl, rfl, trivial⟩, ⟨rfl, trivial⟩⟩ ?_
            refine GW.seq ?_
            refine GW.seq ?_
            refine GW.region ?_
            refine GL.py (PY.move rfl) rfl rfl ?_
            refine GL.py (PY.bin rfl rfl rfl) rfl rfl ?_
            refine GL.nil ?_
            change GW _ _ _ _ _ _
            refine GW.cond rfl (fun hc11 => ?_) (fun hc11 => ?_)
            · have H := condT hc11 H
              refine GW.skip ?_
              change GW _ _ _ _ _ _
              refine GW.seq ?_
              refine GW.block ?_
              refine GW.seq ?_
              refine GW.region ?_
              refine GL.py (PY.move rfl) rfl rfl ?_
              refine GL.py (PY.bin rfl rfl rfl) rfl rfl ?_
              refine GL.py (PY.bin rfl rfl rfl) rfl rfl ?_
              refine GL.py (PY.assign rfl) rfl rfl ?_
              refine GL.nil ?_
              change GW _ _ _ _ _ _
              refine GW.seq ?_
              obtain ⟨_, hz12, H⟩ := bind_some H
              replace hz12 := chk_spec hz12
              refine GW.region ?_
              refine GL.py (PY.move rfl) rfl rfl ?_
              refine GL.py (PY.shr rfl rfl (by decide)) rfl rfl ?_
              refine GL.py (PY.move rfl) rfl rfl ?_
              refine GL.py (PY.bin rfl rfl rfl) rfl rfl ?_
              refine GL.py (PY.conv rfl Try.underlying3 Try.underlying29) rfl rfl ?_
              refine GL.py (PY.rem rfl rfl hz12) rfl rfl ?_
              refine GL.py (PY.conv rfl Try.underlying29 Try.underlying3) rfl rfl ?_
              refine GL.py (PY.assign rfl) rfl rfl ?_
              refine GL.nil ?_
              change GW _ _ _ _ _ _
              obtain ⟨x14, hx14, H⟩ := bind_some H
              obtain ⟨x15, hx15, H⟩ := bind_some H
              obtain ⟨x16, hx16, H⟩ := bind_some H
              refine GW.mono (Q := QB .normal (fun (q : Unit) => (⟨[(8, .val (.int .u64 (IntKind.u64.wrap ((IntKind.u64.wrap (s10 * 6364136223846793005)) + 1442695040888963407)))), (10, .osl 1 (Enc.sz Int) 0 (List.length (List.set (List.set l12 (Int.toNat i11) x14) (Int.toNat (IntKind.i64.wrap (Int.tmod (Int.fdiv (IntKind.u64.wrap ((IntKind.u64.wrap (s10 * 6364136223846793005)) + 1442695040888963407)) (2 ^ (min (Int.toNat 33) (IntKind.bits .u64)))) (IntKind.u64.wrap (IntKind.i64.wrap (i11 + 1)))))) x15))), (12, .val (.int .i64 i11))], [(1, ⟨3, true, true, true, Enc.sz Int, encs (List.set (List.set l12 (Int.toNat i11) x14) (Int.toNat (IntKind.i64.wrap (Int.tmod (Int.fdiv (IntKind.u64.wrap ((IntKind.u64.wrap (s10 * 6364136223846793005)) + 1442695040888963407)) (2 ^ (min (Int.toNat 33) (IntKind.bits .u64)))) (IntKind.u64.wrap (IntKind.i64.wrap (i11 + 1)))))) x15)⟩)]⟩ : St)) ()) ?_ ?_
              · refine GW.draws [1] mixed ?_
                change GH1 _ _ _ _ _ _ 16 _ _
                refine GH1.take 0 rfl (by decide +kernel) (by decide +kernel) (by decide +kernel) rfl rfl (by decide) ((PY.move rfl).yield _) ?_
                refine GH1.take 1 rfl (by decide +kernel) (by decide +kernel) (by decide +kernel) rfl rfl (by decide) ((PY.move rfl).yield _) ?_
                refine GH1.take 2 rfl (by decide +kernel) (by decide +kernel) (by decide +kernel) rfl rfl (by decide) ((PY.move rfl).yield _) ?_
                refine GH1.take 3 rfl (by decide +kernel) (by decide +kernel) (by decide +kernel) rfl rfl (by decide) ((PY.move rfl).yield _) ?_
                refine GH1.take 4 rfl (by decide +kernel) (by decide +kernel) (by decide +kernel) rfl rfl (by decide) ((PY.move rfl).yield _) ?_
                refine GH1.take 5 rfl (by decide +kernel) (by decide +kernel) (by decide +kernel) rfl rfl (by decide) ((PY.move rfl).yield _) ?_
                refine GH1.take 6 rfl (by decide +kernel) (by decide +kernel) (by decide +kernel) rfl rfl (by decide) ((PY.index rfl rfl rfl (idx_spec hx14).1 (idx_spec hx14).2.1 Try.underlying22 Try.sizeOf3).yield _) ?_
                refine GH1.take 8 rfl (by decide +kernel) (by decide +kernel) (by decide +kernel) rfl rfl (by decide) ((PY.move rfl).yield _) ?_
                refine GH1.take 9 rfl (by decide +kernel) (by decide +kernel) (by decide +kernel) rfl rfl (by decide) ((PY.move rfl).yield _) ?_
                refine GH1.take 10 rfl (by decide +kernel) (by decide +kernel) (by decide +kernel) rfl rfl (by decide) ((PY.index rfl rfl rfl (idx_spec hx15).1 (idx_spec hx15).2.1 Try.underlying22 Try.sizeOf3).yield _) ?_
                refine GH1.later ?_
                refine GH2.twoY 7 11 (by decide +kernel) rfl rfl rfl rfl rfl rfl (by decide) (by decide) (YT.own (α := Int) rfl rfl rfl hx14 rfl Try.isAgg3 rfl rfl) (YT.own (α := Int) rfl rfl rfl hx15 rfl Try.isAgg3 rfl rfl) ?_ ?_
                · refine GH2.oneY 11 (by decide +kernel) rfl rfl rfl (by decide) (YT.own (α := Int) rfl rfl rfl hx15 rfl Try.isAgg3 rfl rfl) ?_
                  refine GH2.take 12 rfl (by decide +kernel) (by decide +kernel) (by decide +kernel) rfl rfl (by decide) (PY.index rfl rfl rfl (idx_spec hx15).1 (idx_spec hx15).2.1 Try.underlying22 Try.sizeOf3) ?_
                  refine GH2.one 13 (by decide +kernel) rfl rfl (fun d e => by cases e) (ET.set (α := Int) (x := x14) (W := [1]) rfl rfl rfl rfl rfl rfl rfl rfl rfl (idx_spec hx15).1 (idx_spec hx15).2.1 Try.sizeOf3 rfl) ?_
                  rintro _ rfl
                  refine GH2.resl 10 rfl (show List.length l12 = List.length (List.set l12 (Int.toNat i11) x14) from List.length_set.symm) ?_
                  refine GH2.resl 76 rfl (show List.length l12 = List.length (List.set l12 (Int.toNat i11) x14) from List.length_set.symm) ?_
                  refine GH2.resl 78 rfl (show List.length l12 = List.length (List.set l12 (Int.toNat i11) x14) from List.length_set.symm) ?_
                  refine GH2.resl 80 rfl (show List.length l12 = List.length (List.set l12 (Int.toNat i11) x14) from List.length_set.symm) ?_
                  refine GH2.resl 84 rfl (show List.length l12 = List.length (List.set l12 (Int.toNat i11) x14) from List.length_set.symm) ?_
                  refine GH2.take 14 rfl (by decide +kernel) (by decide +kernel) (by decide +kernel) rfl rfl (by decide) (PY.index rfl rfl rfl (idx_spec hx16).1 (idx_spec hx16).2.1 Try.underlying22 Try.sizeOf3) ?_
                  refine GH2.one 15 (by decide +kernel) rfl rfl (fun d e => by cases e) (ET.set (α := Int) (x := x15) (W := [1]) rfl rfl rfl rfl rfl rfl rfl rfl rfl (idx_spec hx16).1 (idx_spec hx16).2.1 Try.sizeOf3 rfl) ?_
                  rintro _ rfl
                  refine GH2.resl 10 rfl (show List.length (List.set l12 (Int.toNat i11) x14) = List.length (List.set (List.set l12 (Int.toNat i11) x14) (Int.toNat (IntKind.i64.wrap (Int.tmod (Int.fdiv (IntKind.u64.wrap ((IntKind.u64.wrap (s10 * 6364136223846793005)) + 1442695040888963407)) (2 ^ (min (Int.toNat 33) (IntKind.bits .u64)))) (IntKind.u64.wrap (IntKind.i64.wrap (i11 + 1)))))) x15) from List.length_set.symm) ?_
                  refine GH2.resl 76 rfl (show List.length (List.set l12 (Int.toNat i11) x14) = List.length (List.set (List.set l12 (Int.toNat i11) x14) (Int.toNat (IntKind.i64.wrap (Int.tmod (Int.fdiv (IntKind.u64.wrap ((IntKind.u64.wrap (s10 * 6364136223846793005)) + 1442695040888963407)) (2 ^ (min (Int.toNat 33) (IntKind.bits .u64)))) (IntKind.u64.wrap (IntKind.i64.wrap (i11 + 1)))))) x15) from List.length_set.symm) ?_
                  refine GH2.resl 78 rfl (show List.length (List.set l12 (Int.toNat i11) x14) = List.length (List.set (List.set l12 (Int.toNat i11) x14) (Int.toNat (IntKind.i64.wrap (Int.tmod (Int.fdiv (IntKind.u64.wrap ((IntKind.u64.wrap (s10 * 6364136223846793005)) + 1442695040888963407)) (2 ^ (min (Int.toNat 33) (IntKind.bits .u64)))) (IntKind.u64.wrap (IntKind.i64.wrap (i11 + 1)))))) x15) from List.length_set.symm) ?_
                  refine GH2.resl 80 rfl (show List.length (List.set l12 (Int.toNat i11) x14) = List.length (List.set (List.set l12 (Int.toNat i11) x14) (Int.toNat (IntKind.i64.wrap (Int.tmod (Int.fdiv (IntKind.u64.wrap ((IntKind.u64.wrap (s10 * 6364136223846793005)) + 1442695040888963407)) (2 ^ (min (Int.toNat 33) (IntKind.bits .u64)))) (IntKind.u64.wrap (IntKind.i64.wrap (i11 + 1)))))) x15) from List.length_set.symm) ?_
                  refine GH2.resl 84 rfl (show List.length (List.set l12 (Int.toNat i11) x14) = List.length (List.set (List.set l12 (Int.toNat i11) x14) (Int.toNat (IntKind.i64.wrap (Int.tmod (Int.fdiv (IntKind.u64.wrap ((IntKind.u64.wrap (s10 * 6364136223846793005)) + 1442695040888963407)) (2 ^ (min (Int.toNat 33) (IntKind.bits .u64)))) (IntKind.u64.wrap (IntKind.i64.wrap (i11 + 1)))))) x15) from List.length_set.symm) ?_
                  refine GH2.done (by decide +kernel) ?_
                  exact And.intro rfl ⟨⟨rfl, rfl, rfl, trivial⟩, ⟨rfl, trivial⟩⟩
                · refine GH2.oneY 7 (by decide +kernel) rfl rfl rfl (by decide) (YT.own (α := Int) rfl rfl rfl hx14 rfl Try.isAgg3 rfl rfl) ?_
                  refine GH2.take 12 rfl (by decide +kernel) (by decide +kernel) (by decide +kernel) rfl rfl (by decide) (PY.index rfl rfl rfl (idx_spec hx15).1 (idx_spec hx15).2.1 Try.underlying22 Try.sizeOf3) ?_
                  refine GH2.one 13 (by decide +kernel) rfl rfl (fun d e => by cases e) (ET.set (α := Int) (x := x14) (W := [1]) rfl rfl rfl rfl rfl rfl rfl rfl rfl (idx_spec hx15).1 (idx_spec hx15).2.1 Try.sizeOf3 rfl) ?_
                  rintro _ rfl
                  refine GH2.resl 10 rfl (show List.length l12 = List.length (List.set l12 (Int.toNat i11) x14) from List.length_set.symm) ?_
                  refine GH2.resl 76 rfl (show List.length l12 = List.length (List.set l12 (Int.toNat i11) x14) from List.length_set.symm) ?_
                  refine GH2.resl 78 rfl (show List.length l12 = List.length (List.set l12 (Int.toNat i11) x14) from List.length_set.symm) ?_
                  refine GH2.resl 80 rfl (show List.length l12 = List.length (List.set l12 (Int.toNat i11) x14) from List.length_set.symm) ?_
                  refine GH2.resl 84 rfl (show List.length l12 = List.length (List.set l12 (Int.toNat i11) x14) from List.length_set.symm) ?_
                  refine GH2.take 14 rfl (by decide +kernel) (by decide +kernel) (by decide +kernel) rfl rfl (by decide) (PY.index rfl rfl rfl (idx_spec hx16).1 (idx_spec hx16).2.1 Try.underlying22 Try.sizeOf3) ?_
                  refine GH2.one 15 (by decide +kernel) rfl rfl (fun d e => by cases e) (ET.set (α := Int) (x := x15) (W := [1]) rfl rfl rfl rfl rfl rfl rfl rfl rfl (idx_spec hx16).1 (idx_spec hx16).2.1 Try.sizeOf3 rfl) ?_
                  rintro _ rfl
                  refine GH2.resl 10 rfl (show List.length (List.set l12 (Int.toNat i11) x14) = List.length (List.set (List.set l12 (Int.toNat i11) x14) (Int.toNat (IntKind.i64.wrap (Int.tmod (Int.fdiv (IntKind.u64.wrap ((IntKind.u64.wrap (s10 * 6364136223846793005)) + 1442695040888963407)) (2 ^ (min (Int.toNat 33) (IntKind.bits .u64)))) (IntKind.u64.wrap (IntKind.i64.wrap (i11 + 1)))))) x15) from List.length_set.symm) ?_
                  refine GH2.resl 76 rfl (show List.length (List.set l12 (Int.toNat i11) x14) = List.length (List.set (List.set l12 (Int.toNat i11) x14) (Int.toNat (IntKind.i64.wrap (Int.tmod (Int.fdiv (IntKind.u64.wrap ((IntKind.u64.wrap (s10 * 6364136223846793005)) + 1442695040888963407)) (2 ^ (min (Int.toNat 33) (IntKind.bits .u64)))) (IntKind.u64.wrap (IntKind.i64.wrap (i11 + 1)))))) x15) from List.length_set.symm) ?_
                  refine GH2.resl 78 rfl (show List.length (List.set l12 (Int.toNat i11) x14) = List.length (List.set (List.set l12 (Int.toNat i11) x14) (Int.toNat (IntKind.i64.wrap (Int.tmod (Int.fdiv (IntKind.u64.wrap ((IntKind.u64.wrap (s10 * 6364136223846793005)) + 1442695040888963407)) (2 ^ (min (Int.toNat 33) (IntKind.bits .u64)))) (IntKind.u64.wrap (IntKind.i64.wrap (i11 + 1)))))) x15) from List.length_set.symm) ?_
                  refine GH2.resl 80 rfl (show List.length (List.set l12 (Int.toNat i11) x14) = List.length (List.set (List.set l12 (Int.toNat i11) x14) (Int.toNat (IntKind.i64.wrap (Int.tmod (Int.fdiv (IntKind.u64.wrap ((IntKind.u64.wrap (s10 * 6364136223846793005)) + 1442695040888963407)) (2 ^ (min (Int.toNat 33) (IntKind.bits .u64)))) (IntKind.u64.wrap (IntKind.i64.wrap (i11 + 1)))))) x15) from List.length_set.symm) ?_
                  refine GH2.resl 84 rfl (show List.length (List.set l12 (Int.toNat i11) x14) = List.length (List.set (List.set l12 (Int.toNat i11) x14) (Int.toNat (IntKind.i64.wrap (Int.tmod (Int.fdiv (IntKind.u64.wrap ((IntKind.u64.wrap (s10 * 6364136223846793005)) + 1442695040888963407)) (2 ^ (min (Int.toNat 33) (IntKind.bits .u64)))) (IntKind.u64.wrap (IntKind.i64.wrap (i11 + 1)))))) x15) from List.length_set.symm) ?_
                  refine GH2.done (by decide +kernel) ?_
                  exact And.intro rfl ⟨⟨rfl, rfl, rfl, trivial⟩, ⟨rfl, trivial⟩⟩
              · rintro _ s2 ⟨rfl, hs⟩
                change GW _ _ _ _ _ _
                refine GW.weak _ hs ?_
                refine GW.weak ⟨[(8, .val (.int .u64 (IntKind.u64.wrap ((IntKind.u64.wrap (s10 * 6364136223846793005)) + 1442695040888963407)))), (10, .osl 1 (Enc.sz Int) 0 (List.length (List.set (List.set l12 (Int.toNat i11) x14) (Int.toNat (IntKind.i64.wrap (Int.tmod (Int.fdiv (IntKind.u64.wrap ((IntKind.u64.wrap (s10 * 6364136223846793005)) + 1442695040888963407)) (2 ^ (min (Int.toNat 33) (IntKind.bits .u64)))) (IntKind.u64.wrap (IntKind.i64.wrap (i11 + 1)))))) x15))), (12, .val (.int .i64 i11))], [(1, ⟨3, true, true, true, Enc.sz Int, encs (List.set (List.set l12 (Int.toNat i11) x14) (Int.toNat (IntKind.i64.wrap (Int.tmod (Int.fdiv (IntKind.u64.wrap ((IntKind.u64.wrap (s10 * 6364136223846793005)) + 1442695040888963407)) (2 ^ (min (Int.toNat 33) (IntKind.bits .u64)))) (IntKind.u64.wrap (IntKind.i64.wrap (i11 + 1)))))) x15)⟩)]⟩ ⟨⟨rfl, rfl, rfl, trivial⟩, ⟨rfl, trivial⟩⟩ ?_
                change GW _ _ _ _ _ _
                refine GW.region ?_
                refine GL.py (PY.move rfl) rfl rfl ?_
                refine GL.py (PY.bin rfl rfl rfl) rfl rfl ?_
                refine GL.py (PY.assign rfl) rfl rfl ?_
                refine GL.nil ?_
                cases H
                exact And.intro rfl ⟨⟨rfl, rfl, rfl, trivial⟩, ⟨rfl, trivial⟩⟩
            · have H := condF hc11 H
              refine GW.exit ?_
              cases H
              exact And.intro exit_ne (And.intro rfl ⟨⟨rfl, trivial⟩, ⟨rfl, trivial⟩⟩)
          · obtain ⟨rfl, hs⟩ := hx
            obtain ⟨l13, rfl⟩ : ∃ z, z = e14 := ⟨_, rfl⟩
            change GW _ _ _ _ _ _
            refine GW.weak _ hs ?_
            refine GW.weak ⟨[(10, .osl 1 (Enc.sz Int) 0 (List.length l13))], [(1, ⟨3, true, true, true, Enc.sz Int, encs l13⟩)]⟩ ⟨⟨rfl, trivial⟩, ⟨rfl, trivial⟩⟩ ?_
            change GW _ _ _ _ _ _
            refine GW.seq ?_
            refine GW.region ?_
            refine GL.py (PY.move rfl) rfl rfl ?_
            refine GL.py (PY.assign rfl) rfl rfl ?_
            refine GL.py (PY.assign rfl) rfl rfl ?_
            refine GL.nil ?_
            change GW _ _ _ _ _ _
            refine GW.ret ?_
            cases H
            exact RetQ.mk (.inl rfl) [.osl 1 (Enc.sz Int) 0 (List.length l13), .val (.int .i64 0)] _ [] ⟨Res.tmp rfl, Res.tmp rfl, trivial⟩ trivial (fz_tup (fz_go (fz_vec (α := Int) rfl rfl rfl rfl rfl rfl) (fz_go rfl rfl))) ⟨rfl, rfl⟩

theorem refOrder_ok (fu : Nat) (seed0 : ByteArray) (rows0 : Int) (epoch0 : Int) (r : ((List Int) × Int)) (H : F.refOrder fu seed0 rows0 epoch0 = some r) : GM Try.prog 5 [.val (.string seed0), .val (.int .i64 rows0), .val (.int .i64 epoch0)] [] (fun g st => g = .tup [.fr (.sl (List.length r.1) (encs r.1)), .val (.int .i64 r.2)] ∧ st = []) := by
  unfold F.refOrder at H
  refine GM.of (N := 88) Try.func5 rfl rfl rfl (fun cx => ?_)
  change GW _ _ _ _ _ _
  refine GW.seq ?_
  refine GW.region ?_
  refine GL.py (PY.assign rfl) rfl rfl ?_
  refine GL.py (PY.assign rfl) rfl rfl ?_
  refine GL.nil ?_
  change GW _ _ _ _ _ _
  refine GW.seq ?_
  refine GW.seq ?_
  obtain ⟨e15, he15, H⟩ := bind_some H
  obtain ⟨i1, rfl⟩ : ∃ z, z = e15 := ⟨_, rfl⟩
  refine GW.mono (Q := QB .normal (fun (q : Bool) => (⟨[(0, .val (.string seed0)), (1, .val (.int .i64 rows0)), (2, .val (.int .i64 epoch0)), (27, .val (.bool q))], []⟩ : St)) i1) ?_ ?_
  · have H := he15
    refine (Bool.eq_false_or_eq_true (decide (rows0 < 0))).elim (fun hg1 => ?_) (fun hg1 => ?_)
    · have H := condT hg1 H
      refine GW.region ?_
      refine GL.py (PY.move rfl) rfl rfl ?_
      refine GL.py (PY.bin rfl rfl rfl) rfl rfl ?_
      refine GL.py (PY.move rfl) rfl rfl ?_
      refine GL.lit 16 rfl hg1 ?_
      refine GL.no rfl ?_
      refine GL.no rfl ?_
      refine GL.py (PY.pickT rfl rfl) rfl rfl ?_
      refine GL.py (PY.move rfl) rfl rfl ?_
      refine GL.no rfl ?_
      refine GL.no rfl ?_
      refine GL.py (PY.pickT rfl rfl) rfl rfl ?_
      refine GL.py (PY.move rfl) rfl rfl ?_
      refine GL.no rfl ?_
      refine GL.no rfl ?_
      refine GL.py (PY.pickT rfl rfl) rfl rfl ?_
      refine GL.nil ?_
      cases H
      exact And.intro rfl ⟨⟨rfl, rfl, rfl, rfl, trivial⟩, trivial⟩
    · have H := condF hg1 H
      refine (Bool.eq_false_or_eq_true (decide (rows0 > 4096))).elim (fun hg2 => ?_) (fun hg2 => ?_)
      · have H := condT hg2 H
        refine GW.region ?_
        refine GL.py (PY.move rfl) rfl rfl ?_
        refine GL.py (PY.bin rfl rfl rfl) rfl rfl ?_
        refine GL.py (PY.move rfl) rfl rfl ?_
        refine GL.lit 16 rfl hg1 ?_
        refine GL.py (PY.move rfl) rfl rfl ?_
        refine GL.py (PY.bin rfl rfl rfl) rfl rfl ?_
        refine GL.py (PY.pickF rfl rfl) rfl rfl ?_
        refine GL.py (PY.move rfl) rfl rfl ?_
        refine GL.lit 20 rfl hg2 ?_
        refine GL.no rfl ?_
        refine GL.no rfl ?_
        refine GL.py (PY.pickT rfl rfl) rfl rfl ?_
        refine GL.py (PY.move rfl) rfl rfl ?_
        refine GL.no rfl ?_
        refine GL.no rfl ?_
        refine GL.py (PY.pickT rfl rfl) rfl rfl ?_
        refine GL.nil ?_
        cases H
        exact And.intro rfl ⟨⟨rfl, rfl, rfl, rfl, trivial⟩, trivial⟩
      · have H := condF hg2 H
        refine (Bool.eq_false_or_eq_true (decide (epoch0 < 0))).elim (fun hg3 => ?_) (fun hg3 => ?_)
        · have H := condT hg3 H
          refine GW.region ?_
          refine GL.py (PY.move rfl) rfl rfl ?_
          refine GL.py (PY.bin rfl rfl rfl) rfl rfl ?_
          refine GL.py (PY.move rfl) rfl rfl ?_
          refine GL.lit 16 rfl hg1 ?_
          refine GL.py (PY.move rfl) rfl rfl ?_
          refine GL.py (PY.bin rfl rfl rfl) rfl rfl ?_
          refine GL.py (PY.pickF rfl rfl) rfl rfl ?_
          refine GL.py (PY.move rfl) rfl rfl ?_
          refine GL.lit 20 rfl hg2 ?_
          refine GL.py (PY.move rfl) rfl rfl ?_
          refine GL.py (PY.bin rfl rfl rfl) rfl rfl ?_
          refine GL.py (PY.pickF rfl rfl) rfl rfl ?_
          refine GL.py (PY.move rfl) rfl rfl ?_
          refine GL.lit 24 rfl hg3 ?_
          refine GL.no rfl ?_
          refine GL.no rfl ?_
          refine GL.py (PY.pickT rfl rfl) rfl rfl ?_
          refine GL.nil ?_
          cases H
          exact And.intro rfl ⟨⟨rfl, rfl, rfl, rfl, trivial⟩, trivial⟩
        · have H := condF hg3 H
          refine GW.region ?_
          refine GL.py (PY.move rfl) rfl rfl ?_
          refine GL.py (PY.bin rfl rfl rfl) rfl rfl ?_
          refine GL.py (PY.move rfl) rfl rfl ?_
          refine GL.lit 16 rfl hg1 ?_
          refine GL.py (PY.move rfl) rfl rfl ?_
          refine GL.py (PY.bin rfl rfl rfl) rfl rfl ?_
          refine GL.py (PY.pickF rfl rfl) rfl rfl ?_
          refine GL.py (PY.move rfl) rfl rfl ?_
          refine GL.lit 20 rfl hg2 ?_
          refine GL.py (PY.move rfl) rfl rfl ?_
          refine GL.py (PY.bin rfl rfl rfl) rfl rfl ?_
          refine GL.py (PY.pickF rfl rfl) rfl rfl ?_
          refine GL.py (PY.move rfl) rfl rfl ?_
          refine GL.lit 24 rfl hg3 ?_
          refine GL.py (PY.move rfl) rfl rfl ?_
          refine GL.py (PY.bin rfl rfl rfl) rfl rfl ?_
          refine GL.py (PY.pickF rfl rfl) rfl rfl ?_
          refine GL.nil ?_
          cases H
          exact And.intro rfl ⟨⟨rfl, rfl, rfl, rfl, trivial⟩, trivial⟩
  · rintro _ s2 ⟨rfl, hs⟩
    change GW _ _ _ _ _ _
    refine GW.weak _ hs ?_
    refine GW.weak ⟨[(0, .val (.string seed0)), (1, .val (.int .i64 rows0)), (2, .val (.int .i64 epoch0)), (27, .val (.bool i1))], []⟩ ⟨⟨rfl, rfl, rfl, rfl, trivial⟩, trivial⟩ ?_
    change GW _ _ _ _ _ _
    refine GW.cond rfl (fun hc4 => ?_) (fun hc4 => ?_)
    · have H := condT hc4 H
      refine GW.seq ?_
      refine GW.region ?_
      refine GL.py (PY.assign rfl) rfl rfl ?_
      refine GL.py (PY.assign rfl) rfl rfl ?_
      refine GL.nil ?_
      change GW _ _ _ _ _ _
      refine GW.ret ?_
      cases H
      exact RetQ.mk (.inl rfl) [.val (.slice none 0 0), .val (.int .i64 4)] _ [] ⟨Res.tmp rfl, Res.tmp rfl, trivial⟩ trivial (fz_tup (fz_go rfl (fz_go rfl rfl))) ⟨rfl, rfl⟩
    · have H := condF hc4 H
      refine GW.skip ?_
      change GW _ _ _ _ _ _
      refine GW.seq ?_
      refine GW.region ?_
      refine GL.py (PY.assign rfl) rfl rfl ?_
      refine GL.nil ?_
      change GW _ _ _ _ _ _
      refine GW.seq ?_
      refine GW.seq ?_
      refine GW.region ?_
      refine GL.py (PY.assign rfl) rfl rfl ?_
      refine GL.nil ?_
      change GW _ _ _ _ _ _
      refine GW.block ?_
      obtain ⟨e6, he6, H⟩ := bind_some H
      refine GW.weak ((fun (q : Int × Int) => (⟨[(0, .val (.string seed0)), (1, .val (.int .i64 rows0)), (2, .val (.int .i64 epoch0)), (8, .val (.int .u64 q.1)), (9, .val (.int .i64 q.2))], []⟩ : St)) (0, 0)) ⟨⟨rfl, rfl, rfl, rfl, rfl, trivial⟩, trivial⟩ ?_
      refine GW.loopF (fun (q : Int × Int) => (⟨[(0, .val (.string seed0)), (1, .val (.int .i64 rows0)), (2, .val (.int .i64 epoch0)), (8, .val (.int .u64 q.1)), (9, .val (.int .i64 q.2))], []⟩ : St)) (QB (.exit 0) (fun (q : Int) => (⟨[(1, .val (.int .i64 rows0)), (2, .val (.int .i64 epoch0)), (8, .val (.int .u64 q))], []⟩ : St))) he6 (fun x o hb => ?_) (fun ex s2 _ hx => ?_)
      · obtain ⟨s2, i3⟩ := x
        have H := hb
        unfold F.refOrder_l1 at H
        try dsimp only at H
        refine GW.weak ⟨[(0, .val (.string seed0)), (1, .val (.int .i64 rows0)), (2, .val (.int .i64 epoch0)), (8, .val (.int .u64 s2)), (9, .val (.int .i64 i3))], []⟩ ⟨⟨rfl, rfl, rfl, rfl, rfl, trivial⟩, trivial⟩ ?_
        refine GW.seq ?_
        refine GW.seq ?_
        refine GW.region ?_
        refine GL.py (PY.move rfl) rfl rfl ?_
        refine GL.py (PY.move rfl) rfl rfl ?_
        refine GL.py (PY.lenS rfl Try.underlying9) rfl rfl ?_
        refine GL.py (PY.bin rfl rfl rfl) rfl rfl ?_
        refine GL.nil ?_
        change GW _ _ _ _ _ _
        refine GW.cond rfl (fun hc5 => ?_) (fun hc5 => ?_)
        · have H := condT hc5 H
          refine GW.skip ?_
          change GW _ _ _ _ _ _
          refine GW.seq ?_
          refine GW.block ?_
          obtain ⟨c5, hc5, H⟩ := bind_some H
          refine GW.region ?_
          refine GL.py (PY.move rfl) rfl rfl ?_
          refine GL.py (PY.bin rfl rfl rfl) rfl rfl ?_
          refine GL.py (PY.move rfl) rfl rfl ?_
          refine GL.py (PY.move rfl) rfl rfl ?_
          refine GL.py (PY.strIndex rfl rfl (bidx_spec hc5).1 (bidx_spec hc5).2 Try.underlying9) rfl rfl ?_
          refine GL.py (PY.conv rfl Try.underlying5 Try.underlying29) rfl rfl ?_
          refine GL.py (PY.bin rfl rfl rfl) rfl rfl ?_
          refine GL.py (PY.bin rfl rfl rfl) rfl rfl ?_
          refine GL.py (PY.assign rfl) rfl rfl ?_
          refine GL.nil ?_
          change GW _ _ _ _ _ _
          refine GW.region ?_
          refine GL.py (PY.move rfl) rfl rfl ?_
          refine GL.py (PY.bin rfl rfl rfl) rfl rfl ?_
          refine GL.py (PY.assign rfl) rfl rfl ?_
          refine GL.nil ?_
          cases H
          exact And.intro rfl ⟨⟨rfl, rfl, rfl, rfl, rfl, trivial⟩, trivial⟩
        · have H := condF hc5 H
          refine GW.exit ?_
          cases H
          exact And.intro exit_ne (And.intro rfl ⟨⟨rfl, rfl, rfl, trivial⟩, trivial⟩)
      · obtain ⟨rfl, hs⟩ := hx
        obtain ⟨s4, rfl⟩ : ∃ z, z = e6 := ⟨_, rfl⟩
        change GW _ _ _ _ _ _
        refine GW.weak _ hs ?_
        refine GW.weak ⟨[(1, .val (.int .i64 rows0)), (2, .val (.int .i64 epoch0)), (8, .val (.int .u64 s4))], []⟩ ⟨⟨rfl, rfl, rfl, trivial⟩, trivial⟩ ?_
        change GW _ _ _ _ _ _
        refine GW.seq ?_
        refine GW.region ?_
        refine GL.py (PY.move rfl) rfl rfl ?_
        refine GL.py (PY.bin rfl rfl rfl) rfl rfl ?_
        refine GL.py (PY.move rfl) rfl rfl ?_
        refine GL.py (PY.conv rfl Try.underlying3 Try.underlying29) rfl rfl ?_
        refine GL.py (PY.bin rfl rfl rfl) rfl rfl ?_
        refine GL.py (PY.bin rfl rfl rfl) rfl rfl ?_
        refine GL.py (PY.assign rfl) rfl rfl ?_
        refine GL.nil ?_
        change GW _ _ _ _ _ _
        refine GW.seq ?_
        refine GW.region ?_
        refine GL.py (PY.assign rfl) rfl rfl ?_
        refine GL.nil ?_
        change GW _ _ _ _ _ _
        refine GW.seq ?_
        refine GW.seq ?_
        refine GW.region ?_
        refine GL.py (PY.assign rfl) rfl rfl ?_
        refine GL.nil ?_
        change GW _ _ _ _ _ _
        refine GW.block ?_
        refine GW.adopt 10 0 3 (Enc.sz Int) rfl rfl ?_
        obtain ⟨e10, he10, H⟩ := bind_some H
        refine GW.weak ((fun (q : Int × (List Int)) => (⟨[(1, .val (.int .i64 rows0)), (8, .val (.int .u64 (IntKind.u64.wrap ((IntKind.u64.wrap ((IntKind.u64.wrap (1099511628211 * s4)) + (IntKind.u64.wrap epoch0))) + 1)))), (10, .osl 0 (Enc.sz Int) 0 (List.length q.2)), (11, .val (.int .i64 q.1))], [(0, ⟨3, true, true, true, Enc.sz Int, encs q.2⟩)]⟩ : St)) (0, ([] : (List Int)))) ⟨⟨rfl, rfl, rfl, rfl, trivial⟩, ⟨rfl, trivial⟩⟩ ?_
        refine GW.loopF (fun (q : Int × (List Int)) => (⟨[(1, .val (.int .i64 rows0)), (8, .val (.int .u64 (IntKind.u64.wrap ((IntKind.u64.wrap ((IntKind.u64.wrap (1099511628211 * s4)) + (IntKind.u64.wrap epoch0))) + 1)))), (10, .osl 0 (Enc.sz Int) 0 (List.length q.2)), (11, .val (.int .i64 q.1))], [(0, ⟨3, true, true, true, Enc.sz Int, encs q.2⟩)]⟩ : St)) (QB (.exit 2) (fun (q : (List Int)) => (⟨[(1, .val (.int .i64 rows0)), (8, .val (.int .u64 (IntKind.u64.wrap ((IntKind.u64.wrap ((IntKind.u64.wrap (1099511628211 * s4)) + (IntKind.u64.wrap epoch0))) + 1)))), (10, .osl 0 (Enc.sz Int) 0 (List.length q))], [(0, ⟨3, true, true, true, Enc.sz Int, encs q⟩)]⟩ : St))) he10 (fun x o hb => ?_) (fun ex s2 _ hx => ?_)
        · obtain ⟨i6, l7⟩ := x
          have H := hb
          unfold F.refOrder_l2 at H
          try dsimp only at H
          refine GW.weak ⟨[(1, .val (.int .i64 rows0)), (8, .val (.int .u64 (IntKind.u64.wrap ((IntKind.u64.wrap ((IntKind.u64.wrap (1099511628211 * s4)) + (IntKind.u64.wrap epoch0))) + 1)))), (10, .osl 0 (Enc.sz Int) 0 (List.length l7)), (11, .val (.int .i64 i6))], [(0, ⟨3, true, true, true, Enc.sz Int, encs l7⟩)]⟩ ⟨⟨rfl, rfl, rfl, rfl, trivial⟩, ⟨rfl, trivial⟩⟩ ?_
          refine GW.seq ?_
          refine GW.seq ?_
          refine GW.region ?_
          refine GL.py (PY.move rfl) rfl rfl ?_
          refine GL.py (PY.move rfl) rfl rfl ?_
          refine GL.py (PY.bin rfl rfl rfl) rfl rfl ?_
          refine GL.nil ?_
          change GW _ _ _ _ _ _
          refine GW.cond rfl (fun hc7 => ?_) (fun hc7 => ?_)
          · have H := condT hc7 H
            refine GW.skip ?_
            change GW _ _ _ _ _ _
            refine GW.seq ?_
            refine GW.block ?_
            obtain ⟨_, ha8, H⟩ := bind_some H
            replace ha8 := chk_spec ha8
            refine GW.region ?_
            refine GL.py (PY.move rfl) rfl rfl ?_
            refine GL.py (PY.move rfl) rfl rfl ?_
            refine GL.e1 (W := []) (EF.buildSlice 6 rfl rfl Try.underlying22 info3 (by decide) (by decide) rfl rfl) rfl rfl ?_
            refine GL.e1 (ET.append1 (α := Int) (x := i6) (W := [0]) rfl rfl rfl rfl rfl rfl rfl rfl rfl Try.underlying22 info3 rfl ha8.1 ha8.2 rfl) rfl rfl ?_
            refine GL.py (PY.assign rfl) rfl rfl ?_
            refine GL.nil ?_
            change GW _ _ _ _ _ _
            refine GW.region ?_
            refine GL.py (PY.move rfl) rfl rfl ?_
            refine GL.py (PY.bin rfl rfl rfl) rfl rfl ?_
            refine GL.py (PY.assign rfl) rfl rfl ?_
            refine GL.nil ?_
            cases H
            exact And.intro rfl ⟨⟨rfl, rfl, rfl, rfl, trivial⟩, ⟨rfl, trivial⟩⟩
          · have H := condF hc7 H
            refine GW.exit ?_
            cases H
            exact And.intro exit_ne (And.intro rfl ⟨⟨rfl, rfl, rfl, trivial⟩, ⟨rfl, trivial⟩⟩)
        · obtain ⟨rfl, hs⟩ := hx
          obtain ⟨l8, rfl⟩ : ∃ z, z = e10 := ⟨_, rfl⟩
          change GW _ _ _ _ _ _
          refine GW.weak _ hs ?_
          refine GW.weak ⟨[(1, .val (.int .i64 rows0)), (8, .val (.int .u64 (IntKind.u64.wrap ((IntKind.u64.wrap ((IntKind.u64.wrap (1099511628211 * s4)) + (IntKind.u64.wrap epoch0))) + 1)))), (10, .osl 0 (Enc.sz Int) 0 (List.length l8))], [(0, ⟨3, true, true, true, Enc.sz Int, encs l8⟩)]⟩ ⟨⟨rfl, rfl, rfl, trivial⟩, ⟨rfl, trivial⟩⟩ ?_
          change GW _ _ _ _ _ _
          refine GW.seq ?_
          refine GW.seq ?_
          refine GW.region ?_
          refine GL.py (PY.move rfl) rfl rfl ?_
          refine GL.py (PY.bin rfl rfl rfl) rfl rfl ?_
          refine GL.py (PY.assign rfl) rfl rfl ?_
          refine GL.nil ?_
          change GW _ _ _ _ _ _
          refine GW.block ?_
          obtain ⟨e14, he14, H⟩ := bind_some H
          refine GW.weak ((fun (q : Int × Int × (List Int)) => (⟨[(8, .val (.int .u64 q.1)), (10, .osl 0 (Enc.sz Int) 0 (List.length q.2.2)), (12, .val (.int .i64 q.2.1))], [(0, ⟨3, true, true, true, Enc.sz Int, encs q.2.2⟩)]⟩ : St)) (IntKind.u64.wrap ((IntKind.u64.wrap ((IntKind.u64.wrap (1099511628211 * s4)) + (IntKind.u64.wrap epoch0))) + 1), IntKind.i64.wrap (rows0 - 1), l8)) ⟨⟨rfl, rfl, rfl, trivial⟩, ⟨rfl, trivial⟩⟩ ?_
          refine GW.loopF (fun (q : Int × Int × (List Int)) => (⟨[(8, .val (.int .u64 q.1)), (10, .osl 0 (Enc.sz Int) 0 (List.length q.2.2)), (12, .val (.int .i64 q.2.1))], [(0, ⟨3, true, true, true, Enc.sz Int, encs q.2.2⟩)]⟩ : St)) (QB (.exit 4) (fun (q : (List Int)) => (⟨[(10, .osl 0 (Enc.sz Int) 0 (List.length q))], [(0, ⟨3, true, true, true, Enc.sz Int, encs q⟩)]⟩ : St))) he14 (fun x o hb => ?_) (fun ex s2 _ hx => ?_)
          · obtain ⟨s9, i10, l11⟩ := x
            have H := hb
            unfold F.refOrder_l3 at H
            try dsimp only at H
            refine GW.weak ⟨[(8, .val (.int .u64 s9)), (10, .osl 0 (Enc.sz Int) 0 (List.length l11)), (12, .val (.int .i64 i10))], [(0, ⟨3, true, true, true, Enc.sz Int, encs l11⟩)]⟩ ⟨⟨rfl, rfl, rfl, trivial⟩, ⟨rfl, trivial⟩⟩ ?_
            refine GW.seq ?_
            refine GW.seq ?_
            refine GW.region ?_
            refine GL.py (PY.move rfl) rfl rfl ?_
            refine GL.py (PY.bin rfl rfl rfl) rfl rfl ?_
            refine GL.nil ?_
            change GW _ _ _ _ _ _
            refine GW.cond rfl (fun hc11 => ?_) (fun hc11 => ?_)
            · have H := condT hc11 H
              refine GW.skip ?_
              change GW _ _ _ _ _ _
              refine GW.seq ?_
              refine GW.block ?_
              refine GW.seq ?_
              refine GW.region ?_
              refine GL.py (PY.move rfl) rfl rfl ?_
              refine GL.py (PY.bin rfl rfl rfl) rfl rfl ?_
              refine GL.py (PY.bin rfl rfl rfl) rfl rfl ?_
              refine GL.py (PY.assign rfl) rfl rfl ?_
              refine GL.nil ?_
              change GW _ _ _ _ _ _
              refine GW.seq ?_
              obtain ⟨_, hz12, H⟩ := bind_some H
              replace hz12 := chk_spec hz12
              refine GW.region ?_
              refine GL.py (PY.move rfl) rfl rfl ?_
              refine GL.py (PY.quo rfl rfl (by decide)) rfl rfl ?_
              refine GL.py (PY.move rfl) rfl rfl ?_
              refine GL.py (PY.bin rfl rfl rfl) rfl rfl ?_
              refine GL.py (PY.conv rfl Try.underlying3 Try.underlying29) rfl rfl ?_
              refine GL.py (PY.rem rfl rfl hz12) rfl rfl ?_
              refine GL.py (PY.conv rfl Try.underlying29 Try.underlying3) rfl rfl ?_
              refine GL.py (PY.assign rfl) rfl rfl ?_
              refine GL.nil ?_
              change GW _ _ _ _ _ _
              obtain ⟨x13, hx13, H⟩ := bind_some H
              obtain ⟨x14, hx14, H⟩ := bind_some H
              obtain ⟨x15, hx15, H⟩ := bind_some H
              refine GW.mono (Q := QB .normal (fun (q : Unit) => (⟨[(8, .val (.int .u64 (IntKind.u64.wrap ((IntKind.u64.wrap (6364136223846793005 * s9)) + 1442695040888963407)))), (10, .osl 0 (Enc.sz Int) 0 (List.length (List.set (List.set l11 (Int.toNat i10) x13) (Int.toNat (IntKind.i64.wrap (Int.tmod (IntKind.u64.wrap (Int.tdiv (IntKind.u64.wrap ((IntKind.u64.wrap (6364136223846793005 * s9)) + 1442695040888963407)) 8589934592)) (IntKind.u64.wrap (IntKind.i64.wrap (i10 + 1)))))) x14))), (12, .val (.int .i64 i10))], [(0, ⟨3, true, true, true, Enc.sz Int, encs (List.set (List.set l11 (Int.toNat i10) x13) (Int.toNat (IntKind.i64.wrap (Int.tmod (IntKind.u64.wrap (Int.tdiv (IntKind.u64.wrap ((IntKind.u64.wrap (6364136223846793005 * s9)) + 1442695040888963407)) 8589934592)) (IntKind.u64.wrap (IntKind.i64.wrap (i10 + 1)))))) x14)⟩)]⟩ : St)) ()) ?_ ?_
              · refine GW.draws [0] mixed ?_
                change GH1 _ _ _ _ _ _ 16 _ _
                refine GH1.take 0 rfl (by decide +kernel) (by decide +kernel) (by decide +kernel) rfl rfl (by decide) ((PY.move rfl).yield _) ?_
                refine GH1.take 1 rfl (by decide +kernel) (by decide +kernel) (by decide +kernel) rfl rfl (by decide) ((PY.move rfl).yield _) ?_
                refine GH1.take 2 rfl (by decide +kernel) (by decide +kernel) (by decide +kernel) rfl rfl (by decide) ((PY.move rfl).yield _) ?_
                refine GH1.take 3 rfl (by decide +kernel) (by decide +kernel) (by decide +kernel) rfl rfl (by decide) ((PY.move rfl).yield _) ?_
                refine GH1.take 4 rfl (by decide +kernel) (by decide +kernel) (by decide +kernel) rfl rfl (by decide) ((PY.move rfl).yield _) ?_
                refine GH1.take 5 rfl (by decide +kernel) (by decide +kernel) (by decide +kernel) rfl rfl (by decide) ((PY.move rfl).yield _) ?_
                refine GH1.take 6 rfl (by decide +kernel) (by decide +kernel) (by decide +kernel) rfl rfl (by decide) ((PY.index rfl rfl rfl (idx_spec hx13).1 (idx_spec hx13).2.1 Try.underlying22 Try.sizeOf3).yield _) ?_
                refine GH1.take 8 rfl (by decide +kernel) (by decide +kernel) (by decide +kernel) rfl rfl (by decide) ((PY.move rfl).yield _) ?_
                refine GH1.take 9 rfl (by decide +kernel) (by decide +kernel) (by decide +kernel) rfl rfl (by decide) ((PY.move rfl).yield _) ?_
                refine GH1.take 10 rfl (by decide +kernel) (by decide +kernel) (by decide +kernel) rfl rfl (by decide) ((PY.index rfl rfl rfl (idx_spec hx14).1 (idx_spec hx14).2.1 Try.underlying22 Try.sizeOf3).yield _) ?_
                refine GH1.later ?_
                refine GH2.twoY 7 11 (by decide +kernel) rfl rfl rfl rfl rfl rfl (by decide) (by decide) (YT.own (α := Int) rfl rfl rfl hx13 rfl Try.isAgg3 rfl rfl) (YT.own (α := Int) rfl rfl rfl hx14 rfl Try.isAgg3 rfl rfl) ?_ ?_
                · refine GH2.oneY 11 (by decide +kernel) rfl rfl rfl (by decide) (YT.own (α := Int) rfl rfl rfl hx14 rfl Try.isAgg3 rfl rfl) ?_
                  refine GH2.take 12 rfl (by decide +kernel) (by decide +kernel) (by decide +kernel) rfl rfl (by decide) (PY.index rfl rfl rfl (idx_spec hx14).1 (idx_spec hx14).2.1 Try.underlying22 Try.sizeOf3) ?_
                  refine GH2.one 13 (by decide +kernel) rfl rfl (fun d e => by cases e) (ET.set (α := Int) (x := x13) (W := [0]) rfl rfl rfl rfl rfl rfl rfl rfl rfl (idx_spec hx14).1 (idx_spec hx14).2.1 Try.sizeOf3 rfl) ?_
                  rintro _ rfl
                  refine GH2.resl 10 rfl (show List.length l11 = List.length (List.set l11 (Int.toNat i10) x13) from List.length_set.symm) ?_
                  refine GH2.resl 73 rfl (show List.length l11 = List.length (List.set l11 (Int.toNat i10) x13) from List.length_set.symm) ?_
                  refine GH2.resl 75 rfl (show List.length l11 = List.length (List.set l11 (Int.toNat i10) x13) from List.length_set.symm) ?_
                  refine GH2.resl 77 rfl (show List.length l11 = List.length (List.set l11 (Int.toNat i10) x13) from List.length_set.symm) ?_
                  refine GH2.resl 81 rfl (show List.length l11 = List.length (List.set l11 (Int.toNat i10) x13) from List.length_set.symm) ?_
                  refine GH2.take 14 rfl (by decide +kernel) (by decide +kernel) (by decide +kernel) rfl rfl (by decide) (PY.index rfl rfl rfl (idx_spec hx15).1 (idx_spec hx15).2.1 Try.underlying22 Try.sizeOf3) ?_
                  refine GH2.one 15 (by decide +kernel) rfl rfl (fun d e => by cases e) (ET.set (α := Int) (x := x14) (W := [0]) rfl rfl rfl rfl rfl rfl rfl rfl rfl (idx_spec hx15).1 (idx_spec hx15).2.1 Try.sizeOf3 rfl) ?_
                  rintro _ rfl
                  refine GH2.resl 10 rfl (show List.length (List.set l11 (Int.toNat i10) x13) = List.length (List.set (List.set l11 (Int.toNat i10) x13) (Int.toNat (IntKind.i64.wrap (Int.tmod (IntKind.u64.wrap (Int.tdiv (IntKind.u64.wrap ((IntKind.u64.wrap (6364136223846793005 * s9)) + 1442695040888963407)) 8589934592)) (IntKind.u64.wrap (IntKind.i64.wrap (i10 + 1)))))) x14) from List.length_set.symm) ?_
                  refine GH2.resl 73 rfl (show List.length (List.set l11 (Int.toNat i10) x13) = List.length (List.set (List.set l11 (Int.toNat i10) x13) (Int.toNat (IntKind.i64.wrap (Int.tmod (IntKind.u64.wrap (Int.tdiv (IntKind.u64.wrap ((IntKind.u64.wrap (6364136223846793005 * s9)) + 1442695040888963407)) 8589934592)) (IntKind.u64.wrap (IntKind.i64.wrap (i10 + 1)))))) x14) from List.length_set.symm) ?_
                  refine GH2.resl 75 rfl (show List.length (List.set l11 (Int.toNat i10) x13) = List.length (List.set (List.set l11 (Int.toNat i10) x13) (Int.toNat (IntKind.i64.wrap (Int.tmod (IntKind.u64.wrap (Int.tdiv (IntKind.u64.wrap ((IntKind.u64.wrap (6364136223846793005 * s9)) + 1442695040888963407)) 8589934592)) (IntKind.u64.wrap (IntKind.i64.wrap (i10 + 1)))))) x14) from List.length_set.symm) ?_
                  refine GH2.resl 77 rfl (show List.length (List.set l11 (Int.toNat i10) x13) = List.length (List.set (List.set l11 (Int.toNat i10) x13) (Int.toNat (IntKind.i64.wrap (Int.tmod (IntKind.u64.wrap (Int.tdiv (IntKind.u64.wrap ((IntKind.u64.wrap (6364136223846793005 * s9)) + 1442695040888963407)) 8589934592)) (IntKind.u64.wrap (IntKind.i64.wrap (i10 + 1)))))) x14) from List.length_set.symm) ?_
                  refine GH2.resl 81 rfl (show List.length (List.set l11 (Int.toNat i10) x13) = List.length (List.set (List.set l11 (Int.toNat i10) x13) (Int.toNat (IntKind.i64.wrap (Int.tmod (IntKind.u64.wrap (Int.tdiv (IntKind.u64.wrap ((IntKind.u64.wrap (6364136223846793005 * s9)) + 1442695040888963407)) 8589934592)) (IntKind.u64.wrap (IntKind.i64.wrap (i10 + 1)))))) x14) from List.length_set.symm) ?_
                  refine GH2.done (by decide +kernel) ?_
                  exact And.intro rfl ⟨⟨rfl, rfl, rfl, trivial⟩, ⟨rfl, trivial⟩⟩
                · refine GH2.oneY 7 (by decide +kernel) rfl rfl rfl (by decide) (YT.own (α := Int) rfl rfl rfl hx13 rfl Try.isAgg3 rfl rfl) ?_
                  refine GH2.take 12 rfl (by decide +kernel) (by decide +kernel) (by decide +kernel) rfl rfl (by decide) (PY.index rfl rfl rfl (idx_spec hx14).1 (idx_spec hx14).2.1 Try.underlying22 Try.sizeOf3) ?_
                  refine GH2.one 13 (by decide +kernel) rfl rfl (fun d e => by cases e) (ET.set (α := Int) (x := x13) (W := [0]) rfl rfl rfl rfl rfl rfl rfl rfl rfl (idx_spec hx14).1 (idx_spec hx14).2.1 Try.sizeOf3 rfl) ?_
                  rintro _ rfl
                  refine GH2.resl 10 rfl (show List.length l11 = List.length (List.set l11 (Int.toNat i10) x13) from List.length_set.symm) ?_
                  refine GH2.resl 73 rfl (show List.length l11 = List.length (List.set l11 (Int.toNat i10) x13) from List.length_set.symm) ?_
                  refine GH2.resl 75 rfl (show List.length l11 = List.length (List.set l11 (Int.toNat i10) x13) from List.length_set.symm) ?_
                  refine GH2.resl 77 rfl (show List.length l11 = List.length (List.set l11 (Int.toNat i10) x13) from List.length_set.symm) ?_
                  refine GH2.resl 81 rfl (show List.length l11 = List.length (List.set l11 (Int.toNat i10) x13) from List.length_set.symm) ?_
                  refine GH2.take 14 rfl (by decide +kernel) (by decide +kernel) (by decide +kernel) rfl rfl (by decide) (PY.index rfl rfl rfl (idx_spec hx15).1 (idx_spec hx15).2.1 Try.underlying22 Try.sizeOf3) ?_
                  refine GH2.one 15 (by decide +kernel) rfl rfl (fun d e => by cases e) (ET.set (α := Int) (x := x14) (W := [0]) rfl rfl rfl rfl rfl rfl rfl rfl rfl (idx_spec hx15).1 (idx_spec hx15).2.1 Try.sizeOf3 rfl) ?_
                  rintro _ rfl
                  refine GH2.resl 10 rfl (show List.length (List.set l11 (Int.toNat i10) x13) = List.length (List.set (List.set l11 (Int.toNat i10) x13) (Int.toNat (IntKind.i64.wrap (Int.tmod (IntKind.u64.wrap (Int.tdiv (IntKind.u64.wrap ((IntKind.u64.wrap (6364136223846793005 * s9)) + 1442695040888963407)) 8589934592)) (IntKind.u64.wrap (IntKind.i64.wrap (i10 + 1)))))) x14) from List.length_set.symm) ?_
                  refine GH2.resl 73 rfl (show List.length (List.set l11 (Int.toNat i10) x13) = List.length (List.set (List.set l11 (Int.toNat i10) x13) (Int.toNat (IntKind.i64.wrap (Int.tmod (IntKind.u64.wrap (Int.tdiv (IntKind.u64.wrap ((IntKind.u64.wrap (6364136223846793005 * s9)) + 1442695040888963407)) 8589934592)) (IntKind.u64.wrap (IntKind.i64.wrap (i10 + 1)))))) x14) from List.length_set.symm) ?_
                  refine GH2.resl 75 rfl (show List.length (List.set l11 (Int.toNat i10) x13) = List.length (List.set (List.set l11 (Int.toNat i10) x13) (Int.toNat (IntKind.i64.wrap (Int.tmod (IntKind.u64.wrap (Int.tdiv (IntKind.u64.wrap ((IntKind.u64.wrap (6364136223846793005 * s9)) + 1442695040888963407)) 8589934592)) (IntKind.u64.wrap (IntKind.i64.wrap (i10 + 1)))))) x14) from List.length_set.symm) ?_
                  refine GH2.resl 77 rfl (show List.length (List.set l11 (Int.toNat i10) x13) = List.length (List.set (List.set l11 (Int.toNat i10) x13) (Int.toNat (IntKind.i64.wrap (Int.tmod (IntKind.u64.wrap (Int.tdiv (IntKind.u64.wrap ((IntKind.u64.wrap (6364136223846793005 * s9)) + 1442695040888963407)) 8589934592)) (IntKind.u64.wrap (IntKind.i64.wrap (i10 + 1)))))) x14) from List.length_set.symm) ?_
                  refine GH2.resl 81 rfl (show List.length (List.set l11 (Int.toNat i10) x13) = List.length (List.set (List.set l11 (Int.toNat i10) x13) (Int.toNat (IntKind.i64.wrap (Int.tmod (IntKind.u64.wrap (Int.tdiv (IntKind.u64.wrap ((IntKind.u64.wrap (6364136223846793005 * s9)) + 1442695040888963407)) 8589934592)) (IntKind.u64.wrap (IntKind.i64.wrap (i10 + 1)))))) x14) from List.length_set.symm) ?_
                  refine GH2.done (by decide +kernel) ?_
                  exact And.intro rfl ⟨⟨rfl, rfl, rfl, trivial⟩, ⟨rfl, trivial⟩⟩
              · rintro _ s2 ⟨rfl, hs⟩
                change GW _ _ _ _ _ _
                refine GW.weak _ hs ?_
                refine GW.weak ⟨[(8, .val (.int .u64 (IntKind.u64.wrap ((IntKind.u64.wrap (6364136223846793005 * s9)) + 1442695040888963407)))), (10, .osl 0 (Enc.sz Int) 0 (List.length (List.set (List.set l11 (Int.toNat i10) x13) (Int.toNat (IntKind.i64.wrap (Int.tmod (IntKind.u64.wrap (Int.tdiv (IntKind.u64.wrap ((IntKind.u64.wrap (6364136223846793005 * s9)) + 1442695040888963407)) 8589934592)) (IntKind.u64.wrap (IntKind.i64.wrap (i10 + 1)))))) x14))), (12, .val (.int .i64 i10))], [(0, ⟨3, true, true, true, Enc.sz Int, encs (List.set (List.set l11 (Int.toNat i10) x13) (Int.toNat (IntKind.i64.wrap (Int.tmod (IntKind.u64.wrap (Int.tdiv (IntKind.u64.wrap ((IntKind.u64.wrap (6364136223846793005 * s9)) + 1442695040888963407)) 8589934592)) (IntKind.u64.wrap (IntKind.i64.wrap (i10 + 1)))))) x14)⟩)]⟩ ⟨⟨rfl, rfl, rfl, trivial⟩, ⟨rfl, trivial⟩⟩ ?_
                change GW _ _ _ _ _ _
                refine GW.region ?_
                refine GL.py (PY.move rfl) rfl rfl ?_
                refine GL.py (PY.bin rfl rfl rfl) rfl rfl ?_
                refine GL.py (PY.assign rfl) rfl rfl ?_
                refine GL.nil ?_
                cases H
                exact And.intro rfl ⟨⟨rfl, rfl, rfl, trivial⟩, ⟨rfl, trivial⟩⟩
            · have H := condF hc11 H
              refine GW.exit ?_
              cases H
              exact And.intro exit_ne (And.intro rfl ⟨⟨rfl, trivial⟩, ⟨rfl, trivial⟩⟩)
          · obtain ⟨rfl, hs⟩ := hx
            obtain ⟨l12, rfl⟩ : ∃ z, z = e14 := ⟨_, rfl⟩
            change GW _ _ _ _ _ _
            refine GW.weak _ hs ?_
            refine GW.weak ⟨[(10, .osl 0 (Enc.sz Int) 0 (List.length l12))], [(0, ⟨3, true, true, true, Enc.sz Int, encs l12⟩)]⟩ ⟨⟨rfl, trivial⟩, ⟨rfl, trivial⟩⟩ ?_
            change GW _ _ _ _ _ _
            refine GW.seq ?_
            refine GW.region ?_
            refine GL.py (PY.move rfl) rfl rfl ?_
            refine GL.py (PY.assign rfl) rfl rfl ?_
            refine GL.py (PY.assign rfl) rfl rfl ?_
            refine GL.nil ?_
            change GW _ _ _ _ _ _
            refine GW.ret ?_
            cases H
            exact RetQ.mk (.inl rfl) [.osl 0 (Enc.sz Int) 0 (List.length l12), .val (.int .i64 0)] _ [] ⟨Res.tmp rfl, Res.tmp rfl, trivial⟩ trivial (fz_tup (fz_go (fz_vec (α := Int) rfl rfl rfl rfl rfl rfl) (fz_go rfl rfl))) ⟨rfl, rfl⟩

theorem TrainOrders_ok (fu : Nat) (seed0 : ByteArray) (rows0 : Int) (epoch0 : Int) (r : Bool) (H : F.TrainOrders fu seed0 rows0 epoch0 = some r) : GM Try.prog 3 [.val (.string seed0), .val (.int .i64 rows0), .val (.int .i64 epoch0)] [] (fun g st => g = .val (.bool r) ∧ st = []) := by
  unfold F.TrainOrders at H
  refine GM.of (N := 64) Try.func3 rfl rfl rfl (fun cx => ?_)
  change GW _ _ _ _ _ _
  refine GW.seq ?_
  refine GW.region ?_
  refine GL.py (PY.assign rfl) rfl rfl ?_
  refine GL.nil ?_
  change GW _ _ _ _ _ _
  refine GW.seq ?_
  obtain ⟨r1, hr1, H⟩ := bind_some H
  refine GW.region ?_
  refine GL.py (PY.move rfl) rfl rfl ?_
  refine GL.py (PY.move rfl) rfl rfl ?_
  refine GL.py (PY.move rfl) rfl rfl ?_
  refine GL.e (W := []) (EF.call 4 Try.call4 rfl (mapO_cons rfl (mapO_cons rfl (mapO_cons rfl rfl))) (trainOrder_ok fu seed0 rows0 epoch0 r1 hr1) (by rintro _ _ ⟨rfl, rfl⟩; rfl)) rfl rfl ?_
  rintro _ ⟨_, _, ⟨rfl, rfl⟩, rfl⟩
  refine GL.py (PY.move rfl) rfl rfl ?_
  refine GL.py (PY.extract rfl rfl) rfl rfl ?_
  refine GL.py (PY.extract rfl rfl) rfl rfl ?_
  refine GL.py (PY.assign rfl) rfl rfl ?_
  refine GL.py (PY.assign rfl) rfl rfl ?_
  refine GL.nil ?_
  change GW _ _ _ _ _ _
  refine GW.seq ?_
  obtain ⟨r3, hr3, H⟩ := bind_some H
  refine GW.region ?_
  refine GL.py (PY.move rfl) rfl rfl ?_
  refine GL.py (PY.move rfl) rfl rfl ?_
  refine GL.py (PY.move rfl) rfl rfl ?_
  refine GL.e (W := []) (EF.call 4 Try.call5 rfl (mapO_cons rfl (mapO_cons rfl (mapO_cons rfl rfl))) (refOrder_ok fu seed0 rows0 epoch0 r3 hr3) (by rintro _ _ ⟨rfl, rfl⟩; rfl)) rfl rfl ?_
  rintro _ ⟨_, _, ⟨rfl, rfl⟩, rfl⟩
  refine GL.py (PY.move rfl) rfl rfl ?_
  refine GL.py (PY.extract rfl rfl) rfl rfl ?_
  refine GL.py (PY.extract rfl rfl) rfl rfl ?_
  refine GL.py (PY.assign rfl) rfl rfl ?_
  refine GL.py (PY.assign rfl) rfl rfl ?_
  refine GL.nil ?_
  change GW _ _ _ _ _ _
  refine GW.seq ?_
  refine GW.seq ?_
  obtain ⟨r5, hr5, H⟩ := bind_some H
  obtain ⟨e11, he11, H⟩ := bind_some H
  obtain ⟨i6, rfl⟩ : ∃ z, z = e11 := ⟨_, rfl⟩
  refine GW.mono (Q := QB .normal (fun (q : Bool) => (⟨[(7, .fr (.sl (List.length r1.1) (encs r1.1))), (36, .val (.bool q))], []⟩ : St)) i6) ?_ ?_
  · have H := he11
    refine (Bool.eq_false_or_eq_true (!r5)).elim (fun hg1 => ?_) (fun hg1 => ?_)
    · have H := condT hg1 H
      refine GW.region ?_
      refine GL.py (PY.move rfl) rfl rfl ?_
      refine GL.py (PY.move rfl) rfl rfl ?_
      refine GL.e (W := []) (EF.call 4 Try.call6 rfl (mapO_cons rfl (mapO_cons rfl rfl)) (SameList_ok fu r1.1 r3.1 r5 hr5) (by rintro _ _ ⟨rfl, rfl⟩; rfl)) rfl rfl ?_
      rintro _ ⟨_, _, ⟨rfl, rfl⟩, rfl⟩
      refine GL.py (PY.un rfl rfl) rfl rfl ?_
      refine GL.py (PY.move rfl) rfl rfl ?_
      refine GL.lit 32 rfl hg1 ?_
      refine GL.no rfl ?_
      refine GL.no rfl ?_
      refine GL.no rfl ?_
      refine GL.py (PY.pickT rfl rfl) rfl rfl ?_
      refine GL.nil ?_
      cases H
      exact And.intro rfl ⟨⟨rfl, rfl, trivial⟩, trivial⟩
    · have H := condF hg1 H
      refine GW.region ?_
      refine GL.py (PY.move rfl) rfl rfl ?_
      refine GL.py (PY.move rfl) rfl rfl ?_
      refine GL.e (W := []) (EF.call 4 Try.call6 rfl (mapO_cons rfl (mapO_cons rfl rfl)) (SameList_ok fu r1.1 r3.1 r5 hr5) (by rintro _ _ ⟨rfl, rfl⟩; rfl)) rfl rfl ?_
      rintro _ ⟨_, _, ⟨rfl, rfl⟩, rfl⟩
      refine GL.py (PY.un rfl rfl) rfl rfl ?_
      refine GL.py (PY.move rfl) rfl rfl ?_
      refine GL.lit 32 rfl hg1 ?_
      refine GL.py (PY.move rfl) rfl rfl ?_
      refine GL.py (PY.move rfl) rfl rfl ?_
      refine GL.py (PY.bin rfl rfl rfl) rfl rfl ?_
      refine GL.py (PY.pickF rfl rfl) rfl rfl ?_
      refine GL.nil ?_
      cases H
      exact And.intro rfl ⟨⟨rfl, rfl, trivial⟩, trivial⟩
  · rintro _ s2 ⟨rfl, hs⟩
    change GW _ _ _ _ _ _
    refine GW.weak _ hs ?_
    refine GW.weak ⟨[(7, .fr (.sl (List.length r1.1) (encs r1.1))), (36, .val (.bool i6))], []⟩ ⟨⟨rfl, rfl, trivial⟩, trivial⟩ ?_
    change GW _ _ _ _ _ _
    refine GW.cond rfl (fun hc2 => ?_) (fun hc2 => ?_)
    · have H := condT hc2 H
      refine GW.seq ?_
      refine GW.region ?_
      refine GL.py (PY.assign rfl) rfl rfl ?_
      refine GL.nil ?_
      change GW _ _ _ _ _ _
      refine GW.ret ?_
      cases H
      exact RetQ.mk (.inl rfl) [.val (.bool false)] _ [] ⟨Res.tmp rfl, trivial⟩ trivial rfl ⟨rfl, rfl⟩
    · have H := condF hc2 H
      refine GW.skip ?_
      change GW _ _ _ _ _ _
      refine GW.seq ?_
      obtain ⟨_, hm3, H⟩ := bind_some H
      replace hm3 := chk_spec hm3
      refine GW.region ?_
      refine GL.py (PY.move rfl) rfl rfl ?_
      refine GL.py (PY.len rfl rfl Try.underlying22) rfl rfl ?_
      refine GL.e1 (W := []) (ET.make (α := Bool) (x := false) 2 rfl rfl Try.underlying27 info4 rfl rfl hm3.1 hm3.2.1 hm3.2.2 rfl) rfl rfl ?_
      refine GL.py (PY.assign rfl) rfl rfl ?_
      refine GL.nil ?_
      change GW _ _ _ _ _ _
      refine GW.seq ?_
      refine GW.seq ?_
      refine GW.region ?_
      refine GL.py (PY.move rfl) rfl rfl ?_
      refine GL.py (PY.len rfl rfl Try.underlying22) rfl rfl ?_
      refine GL.py (PY.move rfl) rfl rfl ?_
      refine GL.nil ?_
      change GW _ _ _ _ _ _
      refine GW.block ?_
      obtain ⟨e10, he10, Hb, Hr⟩ := bindE_some H
      refine GW.weak ((fun (q : Int × (List Bool)) => (⟨[(11, .osl 2 (Enc.sz Bool) 0 (List.length q.2)), (40, .fr (.sl (List.length r1.1) (encs r1.1))), (41, .val (.int .i64 (List.length r1.1 : Int))), (42, .val (.int .i64 q.1))], [(2, ⟨4, true, true, true, Enc.sz Bool, encs q.2⟩)]⟩ : St)) (0, List.replicate (Int.toNat (List.length r1.1 : Int)) false)) ⟨⟨rfl, rfl, rfl, rfl, trivial⟩, ⟨rfl, trivial⟩⟩ ?_
      refine GW.loopF (fun (q : Int × (List Bool)) => (⟨[(11, .osl 2 (Enc.sz Bool) 0 (List.length q.2)), (40, .fr (.sl (List.length r1.1) (encs r1.1))), (41, .val (.int .i64 (List.length r1.1 : Int))), (42, .val (.int .i64 q.1))], [(2, ⟨4, true, true, true, Enc.sz Bool, encs q.2⟩)]⟩ : St)) (QJ (.exit 0) (fun (q : Unit) => (⟨[], []⟩ : St)) (fun r2 _ s2 => RetQ Try.prog Try.f3 (fun g st => g = .val (.bool r2) ∧ st = []) .ret s2)) he10 (fun x o hb => ?_) (fun ex s2 _ hx => ?_)
      · obtain ⟨i9, seen10⟩ := x
        have H := hb
        unfold F.TrainOrders_l1 at H
        try dsimp only at H
        refine GW.weak ⟨[(11, .osl 2 (Enc.sz Bool) 0 (List.length seen10)), (40, .fr (.sl (List.length r1.1) (encs r1.1))), (41, .val (.int .i64 (List.length r1.1 : Int))), (42, .val (.int .i64 i9))], [(2, ⟨4, true, true, true, Enc.sz Bool, encs seen10⟩)]⟩ ⟨⟨rfl, rfl, rfl, rfl, trivial⟩, ⟨rfl, trivial⟩⟩ ?_
        refine GW.seq ?_
        refine GW.region ?_
        refine GL.py (PY.bin rfl rfl rfl) rfl rfl ?_
        refine GL.nil ?_
        change GW _ _ _ _ _ _
        refine GW.seq ?_
        refine GW.cond rfl (fun hc5 => ?_) (fun hc5 => ?_)
        · have H := condT hc5 H
          refine GW.skip ?_
          change GW _ _ _ _ _ _
          refine GW.seq ?_
          refine GW.block ?_
          refine GW.seq ?_
          obtain ⟨x11, hx11, H⟩ := bind_some H
          refine GW.region ?_
          refine GL.py (PY.index rfl rfl rfl (idx_spec hx11).1 (idx_spec hx11).2.1 Try.underlying22 Try.sizeOf3) rfl rfl ?_
          refine GL.y (YT.eltF (α := Int) rfl hx11 rfl Try.isAgg3 rfl) rfl rfl ?_
          refine GL.py (PY.assign rfl) rfl rfl ?_
          refine GL.nil ?_
          change GW _ _ _ _ _ _
          refine GW.seq ?_
          refine GW.seq ?_
          obtain ⟨e9, he9, H⟩ := bind_some H
          obtain ⟨i13, rfl⟩ : ∃ z, z = e9 := ⟨_, rfl⟩
          refine GW.mono (Q := QB .normal (fun (q : Bool) => (⟨[(11, .osl 2 (Enc.sz Bool) 0 (List.length seen10)), (13, .val (.int .i64 x11)), (40, .fr (.sl (List.length r1.1) (encs r1.1))), (41, .val (.int .i64 (List.length r1.1 : Int))), (42, .val (.int .i64 i9)), (59, .val (.bool q))], [(2, ⟨4, true, true, true, Enc.sz Bool, encs seen10⟩)]⟩ : St)) i13) ?_ ?_
          · have H := he9
            refine (Bool.eq_false_or_eq_true (decide (x11 < 0))).elim (fun hg6 => ?_) (fun hg6 => ?_)
            · have H := condT hg6 H
              refine GW.region ?_
              refine GL.py (PY.move rfl) rfl rfl ?_
              refine GL.py (PY.bin rfl rfl rfl) rfl rfl ?_
              refine GL.py (PY.move rfl) rfl rfl ?_
              refine GL.lit 48 rfl hg6 ?_
              refine GL.no rfl ?_
              refine GL.no rfl ?_
              refine GL.no rfl ?_
              refine GL.no rfl ?_
              refine GL.py (PY.pickT rfl rfl) rfl rfl ?_
              refine GL.py (PY.move rfl) rfl rfl ?_
              refine GL.no rfl ?_
              refine GL.no rfl ?_
              refine GL.no rfl ?_
              refine GL.no rfl ?_
              refine GL.py (PY.pickT rfl rfl) rfl rfl ?_
              refine GL.nil ?_
              cases H
              exact And.intro rfl ⟨⟨rfl, rfl, rfl, rfl, rfl, rfl, trivial⟩, ⟨rfl, trivial⟩⟩
            · have H := condF hg6 H
              refine (Bool.eq_false_or_eq_true (decide (x11 ≥ (List.length seen10 : Int)))).elim (fun hg7 => ?_) (fun hg7 => ?_)
              · have H := condT hg7 H
                refine GW.region ?_
                refine GL.py (PY.move rfl) rfl rfl ?_
                refine GL.py (PY.bin rfl rfl rfl) rfl rfl ?_
                refine GL.py (PY.move rfl) rfl rfl ?_
                refine GL.lit 48 rfl hg6 ?_
                refine GL.py (PY.move rfl) rfl rfl ?_
                refine GL.py (PY.move rfl) rfl rfl ?_
                refine GL.py (PY.len rfl rfl Try.underlying27) rfl rfl ?_
                refine GL.py (PY.bin rfl rfl rfl) rfl rfl ?_
                refine GL.py (PY.pickF rfl rfl) rfl rfl ?_
                refine GL.py (PY.move rfl) rfl rfl ?_
                refine GL.lit 54 rfl hg7 ?_
                refine GL.no rfl ?_
                refine GL.no rfl ?_
                refine GL.no rfl ?_
                refine GL.no rfl ?_
                refine GL.py (PY.pickT rfl rfl) rfl rfl ?_
                refine GL.nil ?_
                cases H
                exact And.intro rfl ⟨⟨rfl, rfl, rfl, rfl, rfl, rfl, trivial⟩, ⟨rfl, trivial⟩⟩
              · have H := condF hg7 H
                obtain ⟨x12, hx12, H⟩ := bind_some H
                refine GW.region ?_
                refine GL.py (PY.move rfl) rfl rfl ?_
                refine GL.py (PY.bin rfl rfl rfl) rfl rfl ?_
                refine GL.py (PY.move rfl) rfl rfl ?_
                refine GL.lit 48 rfl hg6 ?_
                refine GL.py (PY.move rfl) rfl rfl ?_
                refine GL.py (PY.move rfl) rfl rfl ?_
                refine GL.py (PY.len rfl rfl Try.underlying27) rfl rfl ?_
                refine GL.py (PY.bin rfl rfl rfl) rfl rfl ?_
                refine GL.py (PY.pickF rfl rfl) rfl rfl ?_
                refine GL.py (PY.move rfl) rfl rfl ?_
                refine GL.lit 54 rfl hg7 ?_
                refine GL.py (PY.move rfl) rfl rfl ?_
                refine GL.py (PY.move rfl) rfl rfl ?_
                refine GL.py (PY.index rfl rfl rfl (idx_spec hx12).1 (idx_spec hx12).2.1 Try.underlying27 Try.sizeOf4) rfl rfl ?_
                refine GL.y (YT.own (α := Bool) rfl rfl rfl hx12 rfl Try.isAgg4 rfl rfl) rfl rfl ?_
                refine GL.py (PY.pickF rfl rfl) rfl rfl ?_
                refine GL.nil ?_
                cases H
                exact And.intro rfl ⟨⟨rfl, rfl, rfl, rfl, rfl, rfl, trivial⟩, ⟨rfl, trivial⟩⟩
          · rintro _ s2 ⟨rfl, hs⟩
            change GW _ _ _ _ _ _
            refine GW.weak _ hs ?_
            refine GW.weak ⟨[(11, .osl 2 (Enc.sz Bool) 0 (List.length seen10)), (13, .val (.int .i64 x11)), (40, .fr (.sl (List.length r1.1) (encs r1.1))), (41, .val (.int .i64 (List.length r1.1 : Int))), (42, .val (.int .i64 i9)), (59, .val (.bool i13))], [(2, ⟨4, true, true, true, Enc.sz Bool, encs seen10⟩)]⟩ ⟨⟨rfl, rfl, rfl, rfl, rfl, rfl, trivial⟩, ⟨rfl, trivial⟩⟩ ?_
            change GW _ _ _ _ _ _
            refine GW.cond rfl (fun hc8 => ?_) (fun hc8 => ?_)
            · have H := condT hc8 H
              refine GW.seq ?_
              refine GW.region ?_
              refine GL.py (PY.assign rfl) rfl rfl ?_
              refine GL.nil ?_
              change GW _ _ _ _ _ _
              refine GW.ret ?_
              cases H
              exact And.intro ret_ne (And.intro rfl (RetQ.mk (.inl rfl) [.val (.bool false)] _ [] ⟨Res.tmp rfl, trivial⟩ trivial rfl ⟨rfl, rfl⟩))
            · have H := condF hc8 H
              refine GW.skip ?_
              change GW _ _ _ _ _ _
              obtain ⟨x14, hx14, H⟩ := bind_some H
              refine GW.region ?_
              refine GL.py (PY.move rfl) rfl rfl ?_
              refine GL.py (PY.move rfl) rfl rfl ?_
              refine GL.py (PY.index rfl rfl rfl (idx_spec hx14).1 (idx_spec hx14).2.1 Try.underlying27 Try.sizeOf4) rfl rfl ?_
              refine GL.e0 (ET.set (α := Bool) (x := true) (W := [2]) rfl rfl rfl rfl rfl rfl rfl rfl rfl (idx_spec hx14).1 (idx_spec hx14).2.1 Try.sizeOf4 rfl) rfl ?_
              refine GL.resl 11 rfl (show List.length seen10 = List.length (List.set seen10 (Int.toNat x11) true) from List.length_set.symm) ?_
              refine GL.resl 60 rfl (show List.length seen10 = List.length (List.set seen10 (Int.toNat x11) true) from List.length_set.symm) ?_
              refine GL.nil ?_
              change GW _ _ _ _ _ _
              refine GW.region ?_
              refine GL.py (PY.bin rfl rfl rfl) rfl rfl ?_
              refine GL.py (PY.move rfl) rfl rfl ?_
              refine GL.nil ?_
              cases H
              exact And.intro rfl ⟨⟨rfl, rfl, rfl, rfl, trivial⟩, ⟨rfl, trivial⟩⟩
        · have H := condF hc5 H
          refine GW.exit ?_
          cases H
          exact And.intro exit_ne (And.intro rfl ⟨trivial, trivial⟩)
      · cases e10 with
        | ret r2 =>
          obtain ⟨rfl, hx⟩ := hx
          have H := Hr r2 rfl
          subst H
          exact hx
        | brk b2 =>
          obtain ⟨rfl, hs⟩ := hx
          have H := Hb b2 rfl
          change GW _ _ _ _ _ _
          refine GW.weak _ hs ?_
          refine GW.weak ⟨[], []⟩ ⟨trivial, trivial⟩ ?_
          change GW _ _ _ _ _ _
          refine GW.seq ?_
          refine GW.region ?_
          refine GL.py (PY.assign rfl) rfl rfl ?_
          refine GL.nil ?_
          change GW _ _ _ _ _ _
          refine GW.ret ?_
          cases H
          exact RetQ.mk (.inl rfl) [.val (.bool true)] _ [] ⟨Res.tmp rfl, trivial⟩ trivial rfl ⟨rfl, rfl⟩


end Go.Proofs.Ytimngflnekddpaa
