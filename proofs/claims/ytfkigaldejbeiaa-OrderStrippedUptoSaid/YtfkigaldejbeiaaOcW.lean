/-
  Each function returns what its partial function of plain data says, where that says something (printed by wip/tools/gen.py).
-/
import Derived.Test.YtfkigaldejbeiaaOcF
import Derived.Test.YtfkigaldejbeiaaProg
set_option linter.unusedSectionVars false
set_option linter.unusedSimpArgs false
namespace Go.Proofs.Ytfkigaldejbeiaa
open Go.AM
set_option maxHeartbeats 4000000
set_option maxRecDepth 20000
set_option linter.unusedVariables false
theorem mixed : Try.prog.follows .mixedOrders = true := by kernel_rfl
theorem info3 : (Try.prog.info? 3).map (fun i => (i.zero, i.size, i.bytes)) = some (some (.int .i64 0), 1, 8) := by kernel_rfl
theorem slices_Grow_ok (fu : Nat) (n0 : Int) (r : (List Int)) (H : F.slices_Grow fu n0 = some r) : GM Try.prog 69 [.val (.slice none 0 0), .val (.int .i64 n0)] [] (fun g st => g = .osl 600 (Enc.sz Int) 0 (List.length r) ∧ st = [(600, ⟨3, true, true, true, Enc.sz Int, encs r, none⟩)]) := by
  unfold F.slices_Grow at H
  refine GM.of (N := 27) Try.func69 rfl rfl rfl (fun cx hro => ?_)
  change GW _ _ _ _ _ _
  refine GW.seq ?_
  refine GW.region ?_
  refine GL.py (PY.assign rfl) rfl rfl ?_
  refine GL.nil ?_
  change GW _ _ _ _ _ _
  refine GW.seq ?_
  refine GW.seq ?_
  refine GW.region ?_
  refine GL.py (PY.move rfl) rfl rfl ?_
  refine GL.py (PY.bin rfl rfl rfl) rfl rfl ?_
  refine GL.nil ?_
  change GW _ _ _ _ _ _
  obtain ⟨e2, he2, H⟩ := bind_some H
  refine GW.mono (Q := QB .normal (fun (q : Unit) => (⟨[(0, .val (.slice none 0 0)), (1, .val (.int .i64 n0))], [], []⟩ : St)) ()) ?_ ?_
  · have H := he2
    refine GW.cond rfl (fun hc1 => ?_) (fun hc1 => ?_)
    · have H := condT hc1 H
      cases H
    · have H := condF hc1 H
      refine GW.skip ?_
      cases H
      exact And.intro rfl ⟨⟨rfl, rfl, trivial⟩, trivial, rfl⟩
  · rintro _ s2 ⟨rfl, hs⟩
    change GW _ _ _ _ _ _
    refine GW.weak _ hs ?_
    refine GW.weak ⟨[(0, .val (.slice none 0 0)), (1, .val (.int .i64 n0))], [], []⟩ ⟨⟨rfl, rfl, trivial⟩, trivial, rfl⟩ ?_
    change GW _ _ _ _ _ _
    refine GW.seq ?_
    refine GW.seq ?_
    refine GW.region ?_
    refine GL.py (PY.move rfl) rfl rfl ?_
    refine GL.py (PY.move rfl) rfl rfl ?_
    refine GL.py (PY.capN rfl Try.underlying22) rfl rfl ?_
    refine GL.py (PY.move rfl) rfl rfl ?_
    refine GL.py (PY.len rfl rfl Try.underlying22) rfl rfl ?_
    refine GL.py (PY.bin rfl rfl rfl) rfl rfl ?_
    refine GL.py (PY.bin rfl rfl rfl) rfl rfl ?_
    refine GL.py (PY.assign rfl) rfl rfl ?_
    refine GL.nil ?_
    change GW _ _ _ _ _ _
    refine GW.seq ?_
    refine GW.region ?_
    refine GL.py (PY.move rfl) rfl rfl ?_
    refine GL.py (PY.bin rfl rfl rfl) rfl rfl ?_
    refine GL.nil ?_
    change GW _ _ _ _ _ _
    refine GW.cond rfl (fun hc3 => ?_) (fun hc3 => ?_)
    · have H := condT hc3 H
      obtain ⟨_, hm4, H⟩ := bind_some H
      replace hm4 := chk_spec hm4
      obtain ⟨_, hs5, H⟩ := bind_some H
      replace hs5 := chk_spec hs5
      refine GW.region ?_
      refine GL.py (PY.move rfl) rfl rfl ?_
      refine GL.py (PY.move rfl) rfl rfl ?_
      refine GL.py (PY.capN rfl Try.underlying22) rfl rfl ?_
      refine GL.py (PY.sliceN (α := Int) rfl rfl Try.underlying22 Try.sizeOf3) rfl rfl ?_
      refine GL.py (PY.move rfl) rfl rfl ?_
      refine GL.e1 (W := []) (ET.appendZ (α := Int) (x := (0 : Int)) 5 rfl rfl Try.underlying22 Try.underlying3 info3 rfl rfl rfl hm4.1 hm4.2.1 hm4.2.2 rfl) rfl rfl ?_
      refine GL.py (PY.move rfl) rfl rfl ?_
      refine GL.py (PY.len rfl rfl Try.underlying22) rfl rfl ?_
      refine GL.py (PY.sliceO (α := Int) rfl rfl Try.underlying22 Try.sizeOf3 hs5.1 hs5.2) rfl rfl ?_
      refine GL.trunc (α := Int) (l := List.replicate (Int.toNat (IntKind.i64.wrap (n0 - (IntKind.i64.wrap (0 - 0))))) (0 : Int)) 5 rfl rfl (Int.toNat 0) ?_
      refine GL.resl 25 rfl (take_len hs5.1 hs5.2) ?_
      refine GL.py (PY.assign rfl) rfl rfl ?_
      refine GL.nil ?_
      change GW _ _ _ _ _ _
      refine GW.seq ?_
      refine GW.region ?_
      refine GL.py (PY.move rfl) rfl rfl ?_
      refine GL.py (PY.assign rfl) rfl rfl ?_
      refine GL.nil ?_
      change GW _ _ _ _ _ _
      refine GW.move 5 600 rfl rfl ?_
      refine GW.ret ?_
      have H := Option.some.inj H
      subst H
      exact RetQ.mk (.inl rfl) [.osl 600 (Enc.sz Int) 0 (List.length (List.take (Int.toNat 0) (List.replicate (Int.toNat (IntKind.i64.wrap (n0 - (IntKind.i64.wrap (0 - 0))))) (0 : Int))))] _ [(600, ⟨3, true, true, true, Enc.sz Int, encs (List.take (Int.toNat 0) (List.replicate (Int.toNat (IntKind.i64.wrap (n0 - (IntKind.i64.wrap (0 - 0))))) (0 : Int))), none⟩)] ⟨Res.tmp rfl, trivial⟩ ⟨rfl, trivial⟩ rfl ⟨rfl, rfl⟩
    · have H := condF hc3 H
      refine GW.skip ?_
      change GW _ _ _ _ _ _
      refine GW.seq ?_
      refine GW.region ?_
      refine GL.py (PY.move rfl) rfl rfl ?_
      refine GL.py (PY.assign rfl) rfl rfl ?_
      refine GL.nil ?_
      change GW _ _ _ _ _ _
      refine GW.adopt 4 600 3 (Enc.sz Int) rfl rfl ?_
      refine GW.ret ?_
      have H := Option.some.inj H
      subst H
      exact RetQ.mk (.inl rfl) [.osl 600 (Enc.sz Int) 0 (List.length ([] : (List Int)))] _ [(600, ⟨3, true, true, true, Enc.sz Int, encs ([] : (List Int)), none⟩)] ⟨Res.tmp rfl, trivial⟩ ⟨rfl, trivial⟩ rfl ⟨rfl, rfl⟩
theorem slices_Concat_ok (fu : Nat) (slices0 : (List (List Int))) (r : (List Int)) (H : F.slices_Concat fu slices0 = some r) : GM Try.prog 31 [.sl (List.length slices0) (encs slices0)] [] (fun g st => g = .fr (.sl (List.length r) (encs r)) ∧ st = []) := by
  unfold F.slices_Concat at H
  refine GM.of (N := 36) Try.func31 rfl rfl rfl (fun cx hro => ?_)
  change GW _ _ _ _ _ _
  refine GW.seq ?_
  refine GW.region ?_
  refine GL.py (PY.assign rfl) rfl rfl ?_
  refine GL.nil ?_
  change GW _ _ _ _ _ _
  refine GW.seq ?_
  refine GW.region ?_
  refine GL.py (PY.assign rfl) rfl rfl ?_
  refine GL.nil ?_
  change GW _ _ _ _ _ _
  refine GW.seq ?_
  refine GW.seq ?_
  refine GW.region ?_
  refine GL.py (PY.move rfl) rfl rfl ?_
  refine GL.py (PY.len rfl rfl Try.underlying111) rfl rfl ?_
  refine GL.py (PY.move rfl) rfl rfl ?_
  refine GL.nil ?_
  change GW _ _ _ _ _ _
  refine GW.block ?_
  obtain ⟨e3, he3, H⟩ := bind_some H
  refine GW.weak ((fun (q : Int × Int) => (⟨[(0, .sl (List.length slices0) (encs slices0)), (3, .val (.int .i64 q.1)), (9, .sl (List.length slices0) (encs slices0)), (10, .val (.int .i64 (List.length slices0 : Int))), (11, .val (.int .i64 q.2))], [], []⟩ : St)) (0, 0)) ⟨⟨rfl, rfl, rfl, rfl, rfl, trivial⟩, trivial, rfl⟩ ?_
  refine GW.loopF (fun (q : Int × Int) => (⟨[(0, .sl (List.length slices0) (encs slices0)), (3, .val (.int .i64 q.1)), (9, .sl (List.length slices0) (encs slices0)), (10, .val (.int .i64 (List.length slices0 : Int))), (11, .val (.int .i64 q.2))], [], []⟩ : St)) (QB (.exit 0) (fun (q : Int) => (⟨[(0, .sl (List.length slices0) (encs slices0)), (3, .val (.int .i64 q))], [], []⟩ : St))) he3 (fun x o hb => ?_) (fun ex s2 _ hx => ?_)
  · obtain ⟨size1, i2⟩ := x
    have H := hb
    unfold F.slices_Concat_l1 at H
    try dsimp only at H
    refine GW.weak ⟨[(0, .sl (List.length slices0) (encs slices0)), (3, .val (.int .i64 size1)), (9, .sl (List.length slices0) (encs slices0)), (10, .val (.int .i64 (List.length slices0 : Int))), (11, .val (.int .i64 i2))], [], []⟩ ⟨⟨rfl, rfl, rfl, rfl, rfl, trivial⟩, trivial, rfl⟩ ?_
    refine GW.seq ?_
    refine GW.region ?_
    refine GL.py (PY.bin rfl rfl rfl) rfl rfl ?_
    refine GL.nil ?_
    change GW _ _ _ _ _ _
    refine GW.seq ?_
    refine GW.cond rfl (fun hc1 => ?_) (fun hc1 => ?_)
    · have H := condT hc1 H
      refine GW.skip ?_
      change GW _ _ _ _ _ _
      refine GW.seq ?_
      refine GW.block ?_
      refine GW.seq ?_
      obtain ⟨x4, hx4, H⟩ := bind_some H
      refine GW.region ?_
      refine GL.py (PY.index rfl rfl rfl (idx_spec hx4).1 (idx_spec hx4).2.1 Try.underlying111 Try.sizeOf22) rfl rfl ?_
      refine GL.y (YT.elt (α := (List Int)) rfl hx4 rfl Try.isAgg22) rfl rfl ?_
      refine GL.py (PY.assign rfl) rfl rfl ?_
      refine GL.nil ?_
      change GW _ _ _ _ _ _
      refine GW.seq ?_
      refine GW.region ?_
      refine GL.py (PY.move rfl) rfl rfl ?_
      refine GL.py (PY.move rfl) rfl rfl ?_
      refine GL.py (PY.len rfl rfl Try.underlying22) rfl rfl ?_
      refine GL.py (PY.bin rfl rfl rfl) rfl rfl ?_
      refine GL.py (PY.assign rfl) rfl rfl ?_
      refine GL.nil ?_
      change GW _ _ _ _ _ _
      refine GW.seq ?_
      refine GW.region ?_
      refine GL.py (PY.move rfl) rfl rfl ?_
      refine GL.py (PY.bin rfl rfl rfl) rfl rfl ?_
      refine GL.nil ?_
      change GW _ _ _ _ _ _
      refine GW.cond rfl (fun hc2 => ?_) (fun hc2 => ?_)
      · have H := condT hc2 H
        cases H
      · have H := condF hc2 H
        refine GW.skip ?_
        change GW _ _ _ _ _ _
        refine GW.region ?_
        refine GL.py (PY.bin rfl rfl rfl) rfl rfl ?_
        refine GL.py (PY.move rfl) rfl rfl ?_
        refine GL.nil ?_
        cases H
        exact And.intro rfl ⟨⟨rfl, rfl, rfl, rfl, rfl, trivial⟩, trivial, rfl⟩
    · have H := condF hc1 H
      refine GW.exit ?_
      cases H
      exact And.intro exit_ne (And.intro rfl ⟨⟨rfl, rfl, trivial⟩, trivial, rfl⟩)
  · obtain ⟨rfl, hs⟩ := hx
    obtain ⟨size3, rfl⟩ : ∃ z, z = e3 := ⟨_, rfl⟩
    change GW _ _ _ _ _ _
    refine GW.weak _ hs ?_
    refine GW.weak ⟨[(0, .sl (List.length slices0) (encs slices0)), (3, .val (.int .i64 size3))], [], []⟩ ⟨⟨rfl, rfl, trivial⟩, trivial, rfl⟩ ?_
    change GW _ _ _ _ _ _
    refine GW.seq ?_
    obtain ⟨r5, hr5, H⟩ := bind_some H
    refine GW.region ?_
    refine GL.py (PY.move rfl) rfl rfl ?_
    refine GL.e1 (EF.lendW [true, false] (s1 := ⟨[(0, .sl (List.length slices0) (encs slices0)), (24, .osl 201 (Enc.sz Int) 0 (List.length r5))], [(201, ⟨3, true, true, true, Enc.sz Int, encs r5, none⟩)], []⟩) (W := []) [] false [201] Try.call69 rfl rfl rfl rfl (slices_Grow_ok fu size3 r5 hr5) (by rintro _ _ ⟨rfl, rfl⟩; exact ⟨_, _, rfl, rfl, ⟨⟨rfl, rfl, trivial⟩, ⟨rfl, trivial⟩, rfl⟩⟩) rfl) rfl rfl ?_
    refine GL.py (PY.assign rfl) rfl rfl ?_
    refine GL.nil ?_
    change GW _ _ _ _ _ _
    refine GW.seq ?_
    refine GW.seq ?_
    refine GW.region ?_
    refine GL.py (PY.move rfl) rfl rfl ?_
    refine GL.py (PY.len rfl rfl Try.underlying111) rfl rfl ?_
    refine GL.py (PY.move rfl) rfl rfl ?_
    refine GL.nil ?_
    change GW _ _ _ _ _ _
    refine GW.block ?_
    obtain ⟨e7, he7, H⟩ := bind_some H
    refine GW.weak ((fun (q : Int × (List Int)) => (⟨[(6, .osl 201 (Enc.sz Int) 0 (List.length q.2)), (25, .sl (List.length slices0) (encs slices0)), (26, .val (.int .i64 (List.length slices0 : Int))), (27, .val (.int .i64 q.1))], [(201, ⟨3, true, true, true, Enc.sz Int, encs q.2, none⟩)], []⟩ : St)) (0, r5)) ⟨⟨rfl, rfl, rfl, rfl, trivial⟩, ⟨rfl, trivial⟩, rfl⟩ ?_
    refine GW.loopF (fun (q : Int × (List Int)) => (⟨[(6, .osl 201 (Enc.sz Int) 0 (List.length q.2)), (25, .sl (List.length slices0) (encs slices0)), (26, .val (.int .i64 (List.length slices0 : Int))), (27, .val (.int .i64 q.1))], [(201, ⟨3, true, true, true, Enc.sz Int, encs q.2, none⟩)], []⟩ : St)) (QB (.exit 2) (fun (q : (List Int)) => (⟨[(6, .osl 201 (Enc.sz Int) 0 (List.length q))], [(201, ⟨3, true, true, true, Enc.sz Int, encs q, none⟩)], []⟩ : St))) he7 (fun x o hb => ?_) (fun ex s2 _ hx => ?_)
    · obtain ⟨i6, newslice7⟩ := x
      have H := hb
      unfold F.slices_Concat_l2 at H
      try dsimp only at H
      refine GW.weak ⟨[(6, .osl 201 (Enc.sz Int) 0 (List.length newslice7)), (25, .sl (List.length slices0) (encs slices0)), (26, .val (.int .i64 (List.length slices0 : Int))), (27, .val (.int .i64 i6))], [(201, ⟨3, true, true, true, Enc.sz Int, encs newslice7, none⟩)], []⟩ ⟨⟨rfl, rfl, rfl, rfl, trivial⟩, ⟨rfl, trivial⟩, rfl⟩ ?_
      refine GW.seq ?_
      refine GW.region ?_
      refine GL.py (PY.bin rfl rfl rfl) rfl rfl ?_
      refine GL.nil ?_
      change GW _ _ _ _ _ _
      refine GW.seq ?_
      refine GW.cond rfl (fun hc4 => ?_) (fun hc4 => ?_)
      · have H := condT hc4 H
        refine GW.skip ?_
        change GW _ _ _ _ _ _
        refine GW.seq ?_
        refine GW.block ?_
        refine GW.seq ?_
        obtain ⟨x9, hx9, H⟩ := bind_some H
        refine GW.region ?_
        refine GL.py (PY.index rfl rfl rfl (idx_spec hx9).1 (idx_spec hx9).2.1 Try.underlying111 Try.sizeOf22) rfl rfl ?_
        refine GL.y (YT.elt (α := (List Int)) rfl hx9 rfl Try.isAgg22) rfl rfl ?_
        refine GL.py (PY.assign rfl) rfl rfl ?_
        refine GL.nil ?_
        change GW _ _ _ _ _ _
        obtain ⟨_, ha5, H⟩ := bind_some H
        replace ha5 := chk_spec ha5
        refine GW.region ?_
        refine GL.py (PY.move rfl) rfl rfl ?_
        refine GL.py (PY.move rfl) rfl rfl ?_
        refine GL.e1 (ET.append (α := Int) (m := x9) (W := [201]) rfl rfl rfl rfl rfl rfl rfl rfl rfl Try.underlying22 info3 rfl ha5.1 ha5.2 rfl) rfl rfl ?_
        refine GL.refresh (α := Int) (l := newslice7 ++ x9) 201 rfl rfl rfl ?_
        refine GL.py (PY.assign rfl) rfl rfl ?_
        refine GL.nil ?_
        change GW _ _ _ _ _ _
        refine GW.region ?_
        refine GL.py (PY.bin rfl rfl rfl) rfl rfl ?_
        refine GL.py (PY.move rfl) rfl rfl ?_
        refine GL.nil ?_
        cases H
        exact And.intro rfl ⟨⟨rfl, rfl, rfl, rfl, trivial⟩, ⟨rfl, trivial⟩, rfl⟩
      · have H := condF hc4 H
        refine GW.exit ?_
        cases H
        exact And.intro exit_ne (And.intro rfl ⟨⟨rfl, trivial⟩, ⟨rfl, trivial⟩, rfl⟩)
    · obtain ⟨rfl, hs⟩ := hx
      obtain ⟨newslice8, rfl⟩ : ∃ z, z = e7 := ⟨_, rfl⟩
      change GW _ _ _ _ _ _
      refine GW.weak _ hs ?_
      refine GW.weak ⟨[(6, .osl 201 (Enc.sz Int) 0 (List.length newslice8))], [(201, ⟨3, true, true, true, Enc.sz Int, encs newslice8, none⟩)], []⟩ ⟨⟨rfl, trivial⟩, ⟨rfl, trivial⟩, rfl⟩ ?_
      change GW _ _ _ _ _ _
      refine GW.seq ?_
      refine GW.region ?_
      refine GL.py (PY.move rfl) rfl rfl ?_
      refine GL.py (PY.assign rfl) rfl rfl ?_
      refine GL.nil ?_
      change GW _ _ _ _ _ _
      refine GW.ret ?_
      have H := Option.some.inj H
      subst H
      exact RetQ.mk (.inl rfl) [.osl 201 (Enc.sz Int) 0 (List.length newslice8)] _ [] ⟨Res.tmp rfl, trivial⟩ trivial (fz_vec (α := Int) (l := newslice8) rfl rfl rfl rfl rfl rfl) ⟨rfl, rfl⟩
end Go.Proofs.Ytfkigaldejbeiaa
