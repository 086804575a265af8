/-
  The functions that the law reaches, as partial functions over plain data (printed by wip/tools/gen.py).
-/
import Derived.Test.YtongekoajbcliaaGreatDoorMgF
namespace Go.Proofs.YtongekoajbcliaaGreatDoor
open Go.AM
set_option linter.all false
namespace F
noncomputable section
def qP(fu:Nat)(a:Int):Option (List Int):=(cond (decide (a<0)) (none) (some ())).bind fun (_:Unit)=>cond (decide ((IntKind.i64.wrap (a-(IntKind.i64.wrap (0-0))))>0)) ((ba ((0:Int)<(IntKind.i64.wrap (a-(IntKind.i64.wrap (0-0))))/\(IntKind.i64.wrap (a-(IntKind.i64.wrap (0-0))))*(8:Int)<=281474976710656/\(IntKind.i64.wrap (a-(IntKind.i64.wrap (0-0))))<=9223372036854775807)).bind fun _=>(ba ((0:Int)<=0/\0<=(List.length (List.replicate (Int.toNat (IntKind.i64.wrap (a-(IntKind.i64.wrap (0-0))))) (0:Int)):Int))).bind fun _=>some (List.take (Int.toNat 0) (List.replicate (Int.toNat (IntKind.i64.wrap (a-(IntKind.i64.wrap (0-0))))) (0:Int)))) (some ([]:(List Int)))
def lR(fu:Nat)(a:(List (List Int))):Int×Int->Option (Int×Int⊕Int):=fun (b,c)=>cond (decide (c<(List.length a:Int))) ((idx a c).bind fun d=>cond (decide ((IntKind.i64.wrap (b+(List.length d:Int)))<0)) (none) (some (.inl (IntKind.i64.wrap (b+(List.length d:Int)),IntKind.i64.wrap (c+1))))) (some (.inr b))
def lQ(fu:Nat)(b:(List (List Int))):Int×(List Int)->Option (Int×(List Int)⊕(List Int)):=fun (d,a)=>cond (decide (d<(List.length b:Int))) ((idx b d).bind fun c=>(ba ((List.length a)+(List.length c)<=maxLen/\((List.length a)+(List.length c))*8<=140737488355328)).bind fun _=>some (.inl (IntKind.i64.wrap (d+1),a++c))) (some (.inr a))
def di(fu:Nat)(a:(List (List Int))):Option (List Int):=(aL (lR fu a) fu (0,0)).bind fun (c:Int)=>(F.qP fu c).bind fun d=>(aL (lQ fu a) fu (0,d)).bind fun (b:(List Int))=>some b
end
end F
end Go.Proofs.YtongekoajbcliaaGreatDoor
