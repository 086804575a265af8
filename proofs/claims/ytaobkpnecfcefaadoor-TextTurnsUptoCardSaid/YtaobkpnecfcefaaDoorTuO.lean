/-
  Text: programs of small bulk, opened: what they weigh.
-/
import Derived.Test.YtaobkpnecfcefaaDoorTrE
import Derived.Test.YtaobkpnecfcefaaDoorVpB
import Derived.Test.YtaobkpnecfcefaaDoorMgE
import Derived.Test.YtaobkpnecfcefaaDoorProg
set_option linter.unusedVariables false
set_option linter.unusedSimpArgs false
namespace Go.Proofs.YtaobkpnecfcefaaDoor.Pr
open Go.AM Go.DN Go.Proofs.YtaobkpnecfcefaaDoor.Up
open Go.Proofs.YtaobkpnecfcefaaDoor.Rows (uptoBulk uptoBulkAll uptoSmall)
set_option maxRecDepth 20000
theorem MM {α:Type}{xs:List α}(h:xs.length=2):∃a b,xs=[a,b]:=by
 match xs,h with
 | [a,b],_=>exact⟨a,b,rfl⟩
theorem Pd {α:Type}{xs:List α}(h:xs.length=3):∃a b c,xs=[a,b,c]:=by
 match xs,h with
 | [a,b,c],_=>exact⟨a,b,c,rfl⟩
theorem Pt {α:Type}{xs:List α}(h:xs.length=7):∃a b c d e f g,xs=[a,b,c,d,e,f,g]:=by
 match xs,h with
 | [a,b,c,d,e,f,g],_=>exact⟨a,b,c,d,e,f,g,rfl⟩
theorem yJ {H:Type}{l:List (DataW H)}{q:List MemPlace}:uptoBulk ((DataW.agg l,q):DataW H×List MemPlace).1=uptoBulkAll l+1:=rfl
theorem Uo:Tryd.prog.cellsOf 3=1:=by kernel_rfl
theorem SQ:Tryd.prog.cellsOf 87=1:=by kernel_rfl
theorem Kx:Tryd.prog.cellsOf 89=2:=by kernel_rfl
theorem Ky:Tryd.prog.cellsOf 61=2:=by kernel_rfl
theorem KA:Tryd.prog.cellsOf 56=7:=by kernel_rfl
theorem Kz:Tryd.prog.cellsOf 58=9:=by kernel_rfl
theorem Sa (B:Nat):bU Tryd.prog 89 bh yL lR B:=fun fw W base sp held aY cs x h hu=>by
 obtain⟨xs,n,_,rfl,hl,hlen,hf⟩:=DataW.trod_struct Tryd.underlying89 h
 obtain⟨x0,x1,rfl⟩:=MM hlen
 rw[yJ] at hu⊢
 obtain⟨a0,o0,w0,r0⟩:=bU.field (B:=B) hlen hf 0 rfl rfl (bU.string Tryd.underlying9) (by omega)
 obtain⟨a1,o1,w1,r1⟩:=bU.field (B:=B) hlen hf 1 rfl rfl (bU.int Tryd.underlying3) (by omega)
 refine⟨⟨a0,a1⟩,o1,?_,(r0.append rfl r1).all (hl.trans Kx)⟩
 simp only[uptoBulkAll,aB,eJ,lR,nB]
 omega
theorem JQ (B:Nat):bU Tryd.prog 52 (List bh) (fun l=>∀d∈l,yL d) (dG lR) B:=bU.sliceB Tryd.underlying52 Kx (Sa B)
theorem Sc (B:Nat):bU Tryd.prog 61 cJ Fc mV B:=fun fw W base sp held aY cs x h hu=>by
 obtain⟨xs,n,_,rfl,hl,hlen,hf⟩:=DataW.trod_struct Tryd.underlying61 h
 obtain⟨x0,x1,rfl⟩:=MM hlen
 rw[yJ] at hu⊢
 obtain⟨a0,o0,w0,r0⟩:=bU.field (B:=B) hlen hf 0 rfl rfl (bU.string Tryd.underlying9) (by omega)
 obtain⟨a1,o1,w1,r1⟩:=bU.field (B:=B) hlen hf 1 rfl rfl (JQ B) (by omega)
 refine⟨⟨a0,a1⟩,o1,?_,(r0.append rfl r1).all (hl.trans Ky)⟩
 simp only[uptoBulkAll,aB,eJ,mV,nB]
 omega
theorem Se (B:Nat):bU Tryd.prog 53 (List (List Int)) (fun l=>∀x∈l,∀n∈x,pF n) (dG (dG iH)) B:=
 bU.sliceB Tryd.underlying53 SQ (bU.sliceB Tryd.underlying87 Uo (bU.int (B:=B) Tryd.underlying3))
theorem Co (y0:Int) (y1:ByteArray) (y2:Int) (y3:Bool) (y4:List bh) (y5:List (List Int)) (y6:List ai):
  aR.cells (⟨y0,y1,y2,y3,y4,y5,y6⟩:ai)=aR.cells y0++(aR.cells y1++(aR.cells y2++(aR.cells y3++(aR.cells y4++(aR.cells y5++aR.cells y6))))):=by
 show B0 _=_
 unfold B0
 rw[BZ]
 rfl
theorem JP:∀B:Nat,bU Tryd.prog 56 ai pD dN B
 | 0=>fun fw W base sp held aY cs x h hu=>by have:=QM x.1;omega
 | B+1=>fun fw W base sp held aY cs x h hu=>by
  have ih:bU Tryd.prog 54 (List ai) (fun l=>∀k∈l,pD k) (dG dN) B:=bU.sliceB Tryd.underlying54 KA (JP B)
  obtain⟨xs,n,_,rfl,hl,hlen,hf⟩:=DataW.trod_struct Tryd.underlying56 h
  obtain⟨x0,x1,x2,x3,x4,x5,x6,rfl⟩:=Pt hlen
  rw[yJ] at hu⊢
  obtain⟨a0,o0,w0,r0⟩:=bU.field (B:=B) hlen hf 0 rfl rfl (bU.int Tryd.underlying3) (by omega)
  obtain⟨a1,o1,w1,r1⟩:=bU.field (B:=B) hlen hf 1 rfl rfl (bU.string Tryd.underlying9) (by omega)
  obtain⟨a2,o2,w2,r2⟩:=bU.field (B:=B) hlen hf 2 rfl rfl (bU.int Tryd.underlying2) (by omega)
  obtain⟨a3,o3,w3,r3⟩:=bU.field (B:=B) hlen hf 3 rfl rfl (bU.bool Tryd.underlying4) (by omega)
  obtain⟨a4,o4,w4,r4⟩:=bU.field (B:=B) hlen hf 4 rfl rfl (JQ B) (by omega)
  obtain⟨a5,o5,w5,r5⟩:=bU.field (B:=B) hlen hf 5 rfl rfl (Se B) (by omega)
  obtain⟨a6,o6,w6,r6⟩:=bU.field (B:=B) hlen hf 6 rfl rfl ih (by omega)
  refine⟨⟨a0,a1,a2,a3,a4,a5,a6⟩,(l7 _).2 ⟨⟨o2,o4,o5⟩,o6⟩,?_,?_⟩
  ·rw[yS]
   have w6:(a6.map dN).sum+1≤uptoBulk x6.1:=w6
   simp only[uptoBulkAll,aB,eJ,D2,nB]
   omega
  ·rw[Co]
   exact(r0.append rfl (r1.append rfl (r2.append rfl (r3.append rfl (r4.append rfl (r5.append rfl r6)))))).all (hl.trans KA)
theorem LW (y0:ByteArray) (y1:List cJ) (t:ai):aR.cells (⟨y0,y1,t⟩:br)=aR.cells y0++(aR.cells y1++aR.cells t):=by
 obtain⟨a0,a1,a2,a3,a4,a5,a6⟩:=t
 rw[Co]
 rfl
theorem Sd (B:Nat):bU Tryd.prog 58 br okF ox B:=fun fw W base sp held aY cs x h hu=>by
 obtain⟨xs,n,_,rfl,hl,hlen,hf⟩:=DataW.trod_struct Tryd.underlying58 h
 obtain⟨x0,x1,x2,rfl⟩:=Pd hlen
 rw[yJ] at hu⊢
 obtain⟨a0,o0,w0,r0⟩:=bU.field (B:=B) hlen hf 0 rfl rfl (bU.string Tryd.underlying9) (by omega)
 obtain⟨a1,o1,w1,r1⟩:=bU.field (B:=B) hlen hf 1 rfl rfl (bU.sliceB Tryd.underlying51 Ky (Sc B)) (by omega)
 obtain⟨a2,o2,w2,r2⟩:=bU.field (B:=B) hlen hf 2 rfl rfl (JP B) (by omega)
 refine⟨⟨a0,a1,a2⟩,⟨o1,o2⟩,?_,?_⟩
 ·have w1:(a1.map mV).sum+1≤uptoBulk x1.1:=w1
  simp only[uptoBulkAll,aB,eJ,ox,nB,dG]
  omega
 ·rw[LW]
  exact(r0.append rfl (r1.append rfl r2)).all (hl.trans (Kz.trans (by rw[ak,ak,aR.len,aR.len,aR.len];rfl)))
theorem Sf (B:Nat):bU Tryd.prog 22 (List br) (fun l=>∀f∈l,okF f) (dG ox) B:=bU.sliceB Tryd.underlying22 Kz (Sd B)
end Go.Proofs.YtaobkpnecfcefaaDoor.Pr
