/-
  The functions that the law reaches, as partial functions over plain data (printed by wip/tools/gen.py).
-/
import Derived.Test.YtcbaolgciiieeaaAmQ
namespace Go.Proofs.Ytcbaolgciiieeaa
open Go.AM
set_option linter.unusedVariables false
structure SArray where
  Dims : (List Int)
  Data : (List Int)
def okSArray (a : SArray) : Prop := (okL okI) a.Dims ∧ (okL okI) a.Data
instance : Enc SArray := ⟨2, fun a => [.sl (List.length a.Dims) (encs a.Dims), .sl (List.length a.Data) (encs a.Data)], fun _ => rfl, by decide, fun a g h => by simp at h; rcases h with rfl | rfl <;> rfl⟩
namespace F

def view_Size_1 (fu : Nat) (d0 : Int) : Option Bool := (cond (decide (d0 < 0)) (some true) (some (decide (d0 > 4096)))).bind fun (i1 : Bool) => some i1

def slices_IndexFunc_l1 (fu : Nat) (s0 : (List Int)) : Int → Option (Int ⊕ (Ex Unit Int)) := fun i1 => cond (decide (i1 < (List.length s0 : Int))) ((idx s0 i1).bind fun x2 => (F.view_Size_1 fu x2).bind fun r3 => cond r3 (some (.inr (.ret i1))) (some (.inl (IntKind.i64.wrap (i1 + 1))))) (some (.inr (.brk ())))
def slices_IndexFunc (fu : Nat) (s0 : (List Int)) : Option Int := bindE id (loopF (slices_IndexFunc_l1 fu s0) fu 0) fun (_ : Unit) => some (-1)

def slices_ContainsFunc (fu : Nat) (s0 : (List Int)) : Option Bool := (F.slices_IndexFunc fu s0).bind fun r1 => some (decide (r1 ≥ 0))

def slices_Index_l1 (fu : Nat) (s0 : (List Int)) (v0 : Int) : Int → Option (Int ⊕ (Ex Unit Int)) := fun i1 => cond (decide (i1 < (List.length s0 : Int))) ((idx s0 i1).bind fun x2 => cond (v0 == x2) (some (.inr (.ret i1))) (some (.inl (IntKind.i64.wrap (i1 + 1))))) (some (.inr (.brk ())))
def slices_Index (fu : Nat) (s0 : (List Int)) (v0 : Int) : Option Int := bindE id (loopF (slices_Index_l1 fu s0 v0) fu 0) fun (_ : Unit) => some (-1)

def slices_Contains (fu : Nat) (s0 : (List Int)) (v0 : Int) : Option Bool := (F.slices_Index fu s0 v0).bind fun r1 => some (decide (r1 ≥ 0))

def view_Size_l1 (fu : Nat) (dims0 : (List Int)) : Int × Int → Option (Int × Int ⊕ (Ex Int (Int × Int))) := fun (n3, i4) => cond (decide (i4 < (List.length dims0 : Int))) ((idx dims0 i4).bind fun x6 => (cond (decide ((IntKind.i64.wrap (n3 * x6)) > 65536)) ((F.slices_Contains fu dims0 0).bind fun r7 => some (!r7)) (some false)).bind fun (i8 : Bool) => cond i8 (some (.inr (.ret (0, 5)))) (some (.inl ((if 65537 < (IntKind.i64.wrap (n3 * x6)) then 65537 else (IntKind.i64.wrap (n3 * x6))), IntKind.i64.wrap (i4 + 1))))) (some (.inr (.brk n3)))
def view_Size (fu : Nat) (dims0 : (List Int)) : Option (Int × Int) := cond (decide ((List.length dims0 : Int) > 6)) (some (0, 3)) ((F.slices_ContainsFunc fu dims0).bind fun r1 => cond r1 (some (0, 4)) (bindE id (loopF (view_Size_l1 fu dims0) fu (1, 0)) fun (n5 : Int) => some (n5, 0)))

def array_Wrong (fu : Nat) (a0 : SArray) : Option Int := (F.view_Size fu a0.Dims).bind fun r1 => (cond (r1.2 == 0) (some (r1.1 != (List.length a0.Data : Int))) (some false)).bind fun (i3 : Bool) => cond i3 (some 6) (some r1.2)

def slices_Equal_l1 (fu : Nat) (s0 : (List Int)) (s00 : (List Int)) : Int → Option (Int ⊕ (Ex Unit Bool)) := fun i1 => cond (decide (i1 < (List.length s0 : Int))) ((idx s0 i1).bind fun x2 => (idx s00 i1).bind fun x3 => cond (x2 != x3) (some (.inr (.ret false))) (some (.inl (IntKind.i64.wrap (i1 + 1))))) (some (.inr (.brk ())))
def slices_Equal (fu : Nat) (s0 : (List Int)) (s00 : (List Int)) : Option Bool := cond ((List.length s0 : Int) != (List.length s00 : Int)) (some false) (bindE id (loopF (slices_Equal_l1 fu s0 s00) fu 0) fun (_ : Unit) => some true)

def array_Inner_l1 (fu : Nat) (a0 : SArray) (b0 : SArray) : Int × Int → Option (Int × Int ⊕ Int) := fun (s7, i8) => cond (decide (i8 < (List.length a0.Data : Int))) ((idx a0.Data i8).bind fun x10 => (idx b0.Data i8).bind fun x11 => some (.inl (IntKind.i64.wrap (s7 + (IntKind.i64.wrap (x10 * x11))), IntKind.i64.wrap (i8 + 1)))) (some (.inr s7))
def array_Inner (fu : Nat) (a0 : SArray) (b0 : SArray) : Option (Int × Int) := (F.array_Wrong fu a0).bind fun r1 => cond (r1 != 0) (some (0, r1)) ((F.array_Wrong fu b0).bind fun r3 => cond (r3 != 0) (some (0, r3)) ((F.slices_Equal fu a0.Dims b0.Dims).bind fun r5 => cond (!r5) (some (0, 6)) ((loopF (array_Inner_l1 fu a0 b0) fu (0, 0)).bind fun (s9 : Int) => some (s9, 0))))

def adjointref1_Size_l1 (fu : Nat) (dims0 : (List Int)) : Bool × Int → Option (Bool × Int ⊕ (Ex Bool (Int × Int))) := fun (none1, i2) => cond (decide (i2 < (List.length dims0 : Int))) ((idx dims0 i2).bind fun x4 => (cond (decide (x4 < 0)) (some true) (some (decide (x4 > 4096)))).bind fun (i5 : Bool) => cond i5 (some (.inr (.ret (0, 4)))) (cond (x4 == 0) (some (.inl (true, IntKind.i64.wrap (i2 + 1)))) (some (.inl (none1, IntKind.i64.wrap (i2 + 1)))))) (some (.inr (.brk none1)))
def adjointref1_Size_l2 (fu : Nat) (dims0 : (List Int)) : Int × Int → Option (Int × Int ⊕ (Ex Int (Int × Int))) := fun (n6, i7) => cond (decide (i7 < (List.length dims0 : Int))) ((idx dims0 i7).bind fun x9 => cond (decide ((IntKind.i64.wrap (n6 * x9)) > 65536)) (some (.inr (.ret (0, 5)))) (some (.inl (IntKind.i64.wrap (n6 * x9), IntKind.i64.wrap (i7 + 1))))) (some (.inr (.brk n6)))
def adjointref1_Size (fu : Nat) (dims0 : (List Int)) : Option (Int × Int) := cond (decide ((List.length dims0 : Int) > 6)) (some (0, 3)) (bindE id (loopF (adjointref1_Size_l1 fu dims0) fu (false, 0)) fun (none3 : Bool) => cond none3 (some (0, 0)) (bindE id (loopF (adjointref1_Size_l2 fu dims0) fu (1, 0)) fun (n8 : Int) => some (n8, 0)))

def adjointref2_Wrong (fu : Nat) (a0 : SArray) : Option Int := (F.adjointref1_Size fu a0.Dims).bind fun r1 => cond (r1.2 != 0) (some r1.2) (cond ((List.length a0.Data : Int) != r1.1) (some 6) (some 0))

def adjointref2_SameList_l1 (fu : Nat) (a0 : (List Int)) (b0 : (List Int)) : Int → Option (Int ⊕ (Ex Unit Bool)) := fun i1 => cond (decide (i1 < (List.length a0 : Int))) ((idx a0 i1).bind fun x2 => (idx b0 i1).bind fun x3 => cond (x2 != x3) (some (.inr (.ret false))) (some (.inl (IntKind.i64.wrap (i1 + 1))))) (some (.inr (.brk ())))
def adjointref2_SameList (fu : Nat) (a0 : (List Int)) (b0 : (List Int)) : Option Bool := cond ((List.length a0 : Int) != (List.length b0 : Int)) (some false) (bindE id (loopF (adjointref2_SameList_l1 fu a0 b0) fu 0) fun (_ : Unit) => some true)

def adjointref2_Inner_l1 (fu : Nat) (a0 : SArray) (b0 : SArray) : Int × Int → Option (Int × Int ⊕ Int) := fun (s7, i8) => cond (decide (i8 < (List.length a0.Data : Int))) ((idx a0.Data i8).bind fun x10 => (idx b0.Data i8).bind fun x11 => some (.inl (IntKind.i64.wrap (s7 + (IntKind.i64.wrap (x10 * x11))), IntKind.i64.wrap (i8 + 1)))) (some (.inr s7))
def adjointref2_Inner (fu : Nat) (a0 : SArray) (b0 : SArray) : Option (Int × Int) := (F.adjointref2_Wrong fu a0).bind fun r1 => cond (r1 != 0) (some (0, r1)) ((F.adjointref2_Wrong fu b0).bind fun r3 => cond (r3 != 0) (some (0, r3)) ((F.adjointref2_SameList fu a0.Dims b0.Dims).bind fun r5 => cond (!r5) (some (0, 6)) ((loopF (adjointref2_Inner_l1 fu a0 b0) fu (0, 0)).bind fun (s9 : Int) => some (s9, 0))))

def adjointlaw2_ArrayInner (fu : Nat) (a0 : SArray) (b0 : SArray) : Option Bool := (F.array_Inner fu a0 b0).bind fun r1 => (F.adjointref2_Inner fu a0 b0).bind fun r3 => (cond (r1.1 == r3.1) (some (r1.2 == r3.2)) (some false)).bind fun (i5 : Bool) => some i5

end F
end Go.Proofs.Ytcbaolgciiieeaa
