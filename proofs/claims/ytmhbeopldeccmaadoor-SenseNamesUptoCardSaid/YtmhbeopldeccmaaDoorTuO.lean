/-
  Text: programs of small bulk, opened: what they weigh.
-/
import Derived.Test.YtmhbeopldeccmaaDoorTrE
import Derived.Test.YtmhbeopldeccmaaDoorVpB
import Derived.Test.YtmhbeopldeccmaaDoorMgE
import Derived.Test.YtmhbeopldeccmaaDoorProg
set_option linter.unusedVariables false
set_option linter.unusedSimpArgs false
namespace Go.Proofs.YtmhbeopldeccmaaDoor.Pr
open Go.AM Go.DN Go.Proofs.YtmhbeopldeccmaaDoor.Up
open Go.Proofs.YtmhbeopldeccmaaDoor.Rows (uptoBulk uptoBulkAll uptoSmall)
set_option maxRecDepth 20000
theorem J2 {α:Type}{xs:List α}(h:xs.length=2):∃a b,xs=[a,b]:=by
 match xs,h with
 | [a,b],_=>exact⟨a,b,rfl⟩
theorem Mf {α:Type}{xs:List α}(h:xs.length=3):∃a b c,xs=[a,b,c]:=by
 match xs,h with
 | [a,b,c],_=>exact⟨a,b,c,rfl⟩
theorem Mw {α:Type}{xs:List α}(h:xs.length=7):∃a b c d e f g,xs=[a,b,c,d,e,f,g]:=by
 match xs,h with
 | [a,b,c,d,e,f,g],_=>exact⟨a,b,c,d,e,f,g,rfl⟩
theorem w7 {H:Type}{l:List (DataW H)}{q:List MemPlace}:uptoBulk ((DataW.agg l,q):DataW H×List MemPlace).1=uptoBulkAll l+1:=rfl
theorem QL:Tryd.prog.cellsOf 3=1:=by kernel_rfl
theorem Py:Tryd.prog.cellsOf 53=1:=by kernel_rfl
theorem HT:Tryd.prog.cellsOf 45=2:=by kernel_rfl
theorem HU:Tryd.prog.cellsOf 42=2:=by kernel_rfl
theorem HW:Tryd.prog.cellsOf 33=7:=by kernel_rfl
theorem HV:Tryd.prog.cellsOf 35=9:=by kernel_rfl
theorem OW (B:Nat):bM Tryd.prog 45 iu AJ dP B:=fun ft W base sp held bi cs x h hu=>by
 obtain⟨xs,n,_,rfl,hl,hlen,hf⟩:=DataW.trod_struct Tryd.underlying45 h
 obtain⟨x0,x1,rfl⟩:=J2 hlen
 rw[w7] at hu⊢
 obtain⟨a0,o0,w0,r0⟩:=bM.field (B:=B) hlen hf 0 rfl rfl (bM.string Tryd.underlying9) (by omega)
 obtain⟨a1,o1,w1,r1⟩:=bM.field (B:=B) hlen hf 1 rfl rfl (bM.int Tryd.underlying3) (by omega)
 refine⟨⟨a0,a1⟩,o1,?_,(r0.append rfl r1).all (hl.trans HT)⟩
 simp only[uptoBulkAll,az,dE,dP,gM]
 omega
theorem Hu (B:Nat):bM Tryd.prog 29 (List iu) (fun l=>∀d∈l,AJ d) (bu dP) B:=bM.sliceB Tryd.underlying29 HT (OW B)
theorem OX (B:Nat):bM Tryd.prog 42 eT KH eO B:=fun ft W base sp held bi cs x h hu=>by
 obtain⟨xs,n,_,rfl,hl,hlen,hf⟩:=DataW.trod_struct Tryd.underlying42 h
 obtain⟨x0,x1,rfl⟩:=J2 hlen
 rw[w7] at hu⊢
 obtain⟨a0,o0,w0,r0⟩:=bM.field (B:=B) hlen hf 0 rfl rfl (bM.string Tryd.underlying9) (by omega)
 obtain⟨a1,o1,w1,r1⟩:=bM.field (B:=B) hlen hf 1 rfl rfl (Hu B) (by omega)
 refine⟨⟨a0,a1⟩,o1,?_,(r0.append rfl r1).all (hl.trans HU)⟩
 simp only[uptoBulkAll,az,dE,eO,gM]
 omega
theorem OZ (B:Nat):bM Tryd.prog 30 (List (List Int)) (fun l=>∀x∈l,∀n∈x,ss n) (bu (bu cU)) B:=
 bM.sliceB Tryd.underlying30 Py (bM.sliceB Tryd.underlying53 QL (bM.int (B:=B) Tryd.underlying3))
theorem Al (y0:Int) (y1:ByteArray) (y2:Int) (y3:Bool) (y4:List iu) (y5:List (List Int)) (y6:List ai):
  aO.cells (⟨y0,y1,y2,y3,y4,y5,y6⟩:ai)=aO.cells y0++(aO.cells y1++(aO.cells y2++(aO.cells y3++(aO.cells y4++(aO.cells y5++aO.cells y6))))):=by
 show zX _=_
 unfold zX
 rw[zW]
 rfl
theorem Ht:∀B:Nat,bM Tryd.prog 33 ai oP bD B
 | 0=>fun ft W base sp held bi cs x h hu=>by have:=NI x.1;omega
 | B+1=>fun ft W base sp held bi cs x h hu=>by
  have ih:bM Tryd.prog 31 (List ai) (fun l=>∀k∈l,oP k) (bu bD) B:=bM.sliceB Tryd.underlying31 HW (Ht B)
  obtain⟨xs,n,_,rfl,hl,hlen,hf⟩:=DataW.trod_struct Tryd.underlying33 h
  obtain⟨x0,x1,x2,x3,x4,x5,x6,rfl⟩:=Mw hlen
  rw[w7] at hu⊢
  obtain⟨a0,o0,w0,r0⟩:=bM.field (B:=B) hlen hf 0 rfl rfl (bM.int Tryd.underlying3) (by omega)
  obtain⟨a1,o1,w1,r1⟩:=bM.field (B:=B) hlen hf 1 rfl rfl (bM.string Tryd.underlying9) (by omega)
  obtain⟨a2,o2,w2,r2⟩:=bM.field (B:=B) hlen hf 2 rfl rfl (bM.int Tryd.underlying2) (by omega)
  obtain⟨a3,o3,w3,r3⟩:=bM.field (B:=B) hlen hf 3 rfl rfl (bM.bool Tryd.underlying4) (by omega)
  obtain⟨a4,o4,w4,r4⟩:=bM.field (B:=B) hlen hf 4 rfl rfl (Hu B) (by omega)
  obtain⟨a5,o5,w5,r5⟩:=bM.field (B:=B) hlen hf 5 rfl rfl (OZ B) (by omega)
  obtain⟨a6,o6,w6,r6⟩:=bM.field (B:=B) hlen hf 6 rfl rfl ih (by omega)
  refine⟨⟨a0,a1,a2,a3,a4,a5,a6⟩,(nN _).2 ⟨⟨o2,o4,o5⟩,o6⟩,?_,?_⟩
  ·rw[xf]
   have w6:(a6.map bD).sum+1≤uptoBulk x6.1:=w6
   simp only[uptoBulkAll,az,dE,BW,gM]
   omega
  ·rw[Al]
   exact(r0.append rfl (r1.append rfl (r2.append rfl (r3.append rfl (r4.append rfl (r5.append rfl r6)))))).all (hl.trans HW)
theorem Jl (y0:ByteArray) (y1:List eT) (t:ai):aO.cells (⟨y0,y1,t⟩:bB)=aO.cells y0++(aO.cells y1++aO.cells t):=by
 obtain⟨a0,a1,a2,a3,a4,a5,a6⟩:=t
 rw[Al]
 rfl
theorem OY (B:Nat):bM Tryd.prog 35 bB okF eI B:=fun ft W base sp held bi cs x h hu=>by
 obtain⟨xs,n,_,rfl,hl,hlen,hf⟩:=DataW.trod_struct Tryd.underlying35 h
 obtain⟨x0,x1,x2,rfl⟩:=Mf hlen
 rw[w7] at hu⊢
 obtain⟨a0,o0,w0,r0⟩:=bM.field (B:=B) hlen hf 0 rfl rfl (bM.string Tryd.underlying9) (by omega)
 obtain⟨a1,o1,w1,r1⟩:=bM.field (B:=B) hlen hf 1 rfl rfl (bM.sliceB Tryd.underlying28 HU (OX B)) (by omega)
 obtain⟨a2,o2,w2,r2⟩:=bM.field (B:=B) hlen hf 2 rfl rfl (Ht B) (by omega)
 refine⟨⟨a0,a1,a2⟩,⟨o1,o2⟩,?_,?_⟩
 ·have w1:(a1.map eO).sum+1≤uptoBulk x1.1:=w1
  simp only[uptoBulkAll,az,dE,eI,gM,bu]
  omega
 ·rw[Jl]
  exact(r0.append rfl (r1.append rfl r2)).all (hl.trans (HV.trans (by rw[al,al,aO.len,aO.len,aO.len];rfl)))
theorem O0 (B:Nat):bM Tryd.prog 22 (List bB) (fun l=>∀f∈l,okF f) (bu eI) B:=bM.sliceB Tryd.underlying22 HV (OY B)
end Go.Proofs.YtmhbeopldeccmaaDoor.Pr
