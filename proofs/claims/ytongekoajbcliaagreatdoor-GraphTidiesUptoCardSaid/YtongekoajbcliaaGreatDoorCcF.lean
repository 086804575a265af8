/-
  The functions that the law reaches, as partial functions over plain data (printed by wip/tools/gen.py).
-/
import Derived.Test.YtongekoajbcliaaGreatDoorMgF
namespace Go.Proofs.YtongekoajbcliaaGreatDoor
open Go.AM
set_option linter.unusedVariables false
namespace F
noncomputable section
def qz (fu:Nat) (n0:Int):Option (List Int):=(cond (decide (n0<0)) (none) (some ())).bind fun (_:Unit)=>cond (decide ((IntKind.i64.wrap (n0-(IntKind.i64.wrap (0-0))))>0)) ((bj ((0:Int)<(IntKind.i64.wrap (n0-(IntKind.i64.wrap (0-0))))∧(IntKind.i64.wrap (n0-(IntKind.i64.wrap (0-0))))*(8:Int)≤281474976710656∧(IntKind.i64.wrap (n0-(IntKind.i64.wrap (0-0))))≤9223372036854775807)).bind fun _=>(bj ((0:Int)≤0∧0≤(List.length (List.replicate (Int.toNat (IntKind.i64.wrap (n0-(IntKind.i64.wrap (0-0))))) (0:Int)):Int))).bind fun _=>some (List.take (Int.toNat 0) (List.replicate (Int.toNat (IntKind.i64.wrap (n0-(IntKind.i64.wrap (0-0))))) (0:Int)))) (some ([]:(List Int)))
def lH (fu:Nat) (slices0:(List (List Int))):Int×Int→Option (Int×Int⊕Int):=fun (size1,i2)=>cond (decide (i2<(List.length slices0:Int))) ((idx slices0 i2).bind fun x4=>cond (decide ((IntKind.i64.wrap (size1+(List.length x4:Int)))<0)) (none) (some (.inl (IntKind.i64.wrap (size1+(List.length x4:Int)),IntKind.i64.wrap (i2+1))))) (some (.inr size1))
def lG (fu:Nat) (slices0:(List (List Int))):Int×(List Int)→Option (Int×(List Int)⊕(List Int)):=fun (i6,newslice7)=>cond (decide (i6<(List.length slices0:Int))) ((idx slices0 i6).bind fun x9=>(bj ((List.length newslice7)+(List.length x9)≤maxLen∧((List.length newslice7)+(List.length x9))*8≤140737488355328)).bind fun _=>some (.inl (IntKind.i64.wrap (i6+1),newslice7++x9))) (some (.inr newslice7))
def c7 (fu:Nat) (slices0:(List (List Int))):Option (List Int):=(aP (lH fu slices0) fu (0,0)).bind fun (size3:Int)=>(F.qz fu size3).bind fun r5=>(aP (lG fu slices0) fu (0,r5)).bind fun (newslice8:(List Int))=>some newslice8
end
end F
end Go.Proofs.YtongekoajbcliaaGreatDoor
