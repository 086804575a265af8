/-
  Text: programs of small bulk, opened: what they weigh.
-/
import Derived.Test.YtaobkpnecfcefaaDoorTrE
import Derived.Test.YtaobkpnecfcefaaDoorVpB
import Derived.Test.YtaobkpnecfcefaaDoorMgE
import Derived.Test.YtaobkpnecfcefaaDoorProg
set_option linter.unusedVariables false
set_option linter.unusedSimpArgs false
namespace Go.Proofs.YtaobkpnecfcefaaDoor.Pr
open Go.AM Go.DN Go.Proofs.YtaobkpnecfcefaaDoor.Up
open Go.Proofs.YtaobkpnecfcefaaDoor.Rows (uptoBulk uptoBulkAll uptoSmall)
set_option maxRecDepth 20000
theorem two_of {α:Type}{xs:List α}(h:xs.length=2):∃a b,xs=[a,b]:=by
 match xs,h with
 | [a,b],_=>exact⟨a,b,rfl⟩
theorem three_of {α:Type}{xs:List α}(h:xs.length=3):∃a b c,xs=[a,b,c]:=by
 match xs,h with
 | [a,b,c],_=>exact⟨a,b,c,rfl⟩
theorem seven_of {α:Type}{xs:List α}(h:xs.length=7):∃a b c d e f g,xs=[a,b,c,d,e,f,g]:=by
 match xs,h with
 | [a,b,c,d,e,f,g],_=>exact⟨a,b,c,d,e,f,g,rfl⟩
theorem agg_bulk {H:Type}{l:List (DataW H)}{q:List MemPlace}:uptoBulk ((DataW.agg l,q):DataW H×List MemPlace).1=uptoBulkAll l+1:=rfl
theorem cells3:Tryd.prog.cellsOf 3=1:=by kernel_rfl
theorem cells87:Tryd.prog.cellsOf 87=1:=by kernel_rfl
theorem cells89:Tryd.prog.cellsOf 89=2:=by kernel_rfl
theorem cells61:Tryd.prog.cellsOf 61=2:=by kernel_rfl
theorem cells56:Tryd.prog.cellsOf 56=7:=by kernel_rfl
theorem cells58:Tryd.prog.cellsOf 58=9:=by kernel_rfl
theorem opens89 (B:Nat):OpensW Tryd.prog 89 SDim okD wtD B:=fun enc W base sp held fuel cs x h hu=>by
 obtain⟨xs,n,_,rfl,hl,hlen,hf⟩:=DataW.trod_struct Tryd.underlying89 h
 obtain⟨x0,x1,rfl⟩:=two_of hlen
 rw[agg_bulk] at hu⊢
 obtain⟨a0,o0,w0,r0⟩:=OpensW.field (B:=B) hlen hf 0 rfl rfl (OpensW.string Tryd.underlying9) (by omega)
 obtain⟨a1,o1,w1,r1⟩:=OpensW.field (B:=B) hlen hf 1 rfl rfl (OpensW.int Tryd.underlying3) (by omega)
 refine⟨⟨a0,a1⟩,o1,?_,(r0.append rfl r1).all (hl.trans cells89)⟩
 simp only[uptoBulkAll,List.map_cons,List.map_nil,wtD,wtS]
 omega
theorem opens52 (B:Nat):OpensW Tryd.prog 52 (List SDim) (fun l=>∀d∈l,okD d) (wtL wtD) B:=OpensW.sliceB Tryd.underlying52 cells89 (opens89 B)
theorem opens61 (B:Nat):OpensW Tryd.prog 61 SGiven okG wtG B:=fun enc W base sp held fuel cs x h hu=>by
 obtain⟨xs,n,_,rfl,hl,hlen,hf⟩:=DataW.trod_struct Tryd.underlying61 h
 obtain⟨x0,x1,rfl⟩:=two_of hlen
 rw[agg_bulk] at hu⊢
 obtain⟨a0,o0,w0,r0⟩:=OpensW.field (B:=B) hlen hf 0 rfl rfl (OpensW.string Tryd.underlying9) (by omega)
 obtain⟨a1,o1,w1,r1⟩:=OpensW.field (B:=B) hlen hf 1 rfl rfl (opens52 B) (by omega)
 refine⟨⟨a0,a1⟩,o1,?_,(r0.append rfl r1).all (hl.trans cells61)⟩
 simp only[uptoBulkAll,List.map_cons,List.map_nil,wtG,wtS]
 omega
theorem opens53 (B:Nat):OpensW Tryd.prog 53 (List (List Int)) (fun l=>∀x∈l,∀n∈x,okI n) (wtL (wtL wtI)) B:=
 OpensW.sliceB Tryd.underlying53 cells87 (OpensW.sliceB Tryd.underlying87 cells3 (OpensW.int (B:=B) Tryd.underlying3))
theorem tree_cells (y0:Int) (y1:ByteArray) (y2:Int) (y3:Bool) (y4:List SDim) (y5:List (List Int)) (y6:List STree):
  Enc.cells (⟨y0,y1,y2,y3,y4,y5,y6⟩:STree)=Enc.cells y0++(Enc.cells y1++(Enc.cells y2++(Enc.cells y3++(Enc.cells y4++(Enc.cells y5++Enc.cells y6))))):=by
 show enc2 _=_
 unfold enc2
 rw[enc2L_eq]
 rfl
theorem opens56:∀B:Nat,OpensW Tryd.prog 56 STree okT wtT B
 | 0=>fun enc W base sp held fuel cs x h hu=>by have:=bulk_pos x.1;omega
 | B+1=>fun enc W base sp held fuel cs x h hu=>by
  have ih:OpensW Tryd.prog 54 (List STree) (fun l=>∀k∈l,okT k) (wtL wtT) B:=OpensW.sliceB Tryd.underlying54 cells56 (opens56 B)
  obtain⟨xs,n,_,rfl,hl,hlen,hf⟩:=DataW.trod_struct Tryd.underlying56 h
  obtain⟨x0,x1,x2,x3,x4,x5,x6,rfl⟩:=seven_of hlen
  rw[agg_bulk] at hu⊢
  obtain⟨a0,o0,w0,r0⟩:=OpensW.field (B:=B) hlen hf 0 rfl rfl (OpensW.int Tryd.underlying3) (by omega)
  obtain⟨a1,o1,w1,r1⟩:=OpensW.field (B:=B) hlen hf 1 rfl rfl (OpensW.string Tryd.underlying9) (by omega)
  obtain⟨a2,o2,w2,r2⟩:=OpensW.field (B:=B) hlen hf 2 rfl rfl (OpensW.int Tryd.underlying2) (by omega)
  obtain⟨a3,o3,w3,r3⟩:=OpensW.field (B:=B) hlen hf 3 rfl rfl (OpensW.bool Tryd.underlying4) (by omega)
  obtain⟨a4,o4,w4,r4⟩:=OpensW.field (B:=B) hlen hf 4 rfl rfl (opens52 B) (by omega)
  obtain⟨a5,o5,w5,r5⟩:=OpensW.field (B:=B) hlen hf 5 rfl rfl (opens53 B) (by omega)
  obtain⟨a6,o6,w6,r6⟩:=OpensW.field (B:=B) hlen hf 6 rfl rfl ih (by omega)
  refine⟨⟨a0,a1,a2,a3,a4,a5,a6⟩,(okT_eq _).2 ⟨⟨o2,o4,o5⟩,o6⟩,?_,?_⟩
  ·rw[wtT_eq]
   have w6:(a6.map wtT).sum+1≤uptoBulk x6.1:=w6
   simp only[uptoBulkAll,List.map_cons,List.map_nil,wtTB,wtS]
   omega
  ·rw[tree_cells]
   exact(r0.append rfl (r1.append rfl (r2.append rfl (r3.append rfl (r4.append rfl (r5.append rfl r6)))))).all (hl.trans cells56)
theorem func_cells (y0:ByteArray) (y1:List SGiven) (t:STree):Enc.cells (⟨y0,y1,t⟩:SFunc)=Enc.cells y0++(Enc.cells y1++Enc.cells t):=by
 obtain⟨a0,a1,a2,a3,a4,a5,a6⟩:=t
 rw[tree_cells]
 rfl
theorem opens58 (B:Nat):OpensW Tryd.prog 58 SFunc okF wtF B:=fun enc W base sp held fuel cs x h hu=>by
 obtain⟨xs,n,_,rfl,hl,hlen,hf⟩:=DataW.trod_struct Tryd.underlying58 h
 obtain⟨x0,x1,x2,rfl⟩:=three_of hlen
 rw[agg_bulk] at hu⊢
 obtain⟨a0,o0,w0,r0⟩:=OpensW.field (B:=B) hlen hf 0 rfl rfl (OpensW.string Tryd.underlying9) (by omega)
 obtain⟨a1,o1,w1,r1⟩:=OpensW.field (B:=B) hlen hf 1 rfl rfl (OpensW.sliceB Tryd.underlying51 cells61 (opens61 B)) (by omega)
 obtain⟨a2,o2,w2,r2⟩:=OpensW.field (B:=B) hlen hf 2 rfl rfl (opens56 B) (by omega)
 refine⟨⟨a0,a1,a2⟩,⟨o1,o2⟩,?_,?_⟩
 ·have w1:(a1.map wtG).sum+1≤uptoBulk x1.1:=w1
  simp only[uptoBulkAll,List.map_cons,List.map_nil,wtF,wtS,wtL]
  omega
 ·rw[func_cells]
  exact(r0.append rfl (r1.append rfl r2)).all (hl.trans (cells58.trans (by rw[List.length_append,List.length_append,Enc.len,Enc.len,Enc.len];rfl)))
theorem opens22 (B:Nat):OpensW Tryd.prog 22 (List SFunc) (fun l=>∀f∈l,okF f) (wtL wtF) B:=OpensW.sliceB Tryd.underlying22 cells58 (opens58 B)
end Go.Proofs.YtaobkpnecfcefaaDoor.Pr
