/-
  OrderMixes: the row: for every input the law returns true, and each argument reads as it did (inputs of bulk at most 1048576).
-/
import Derived.Test.YtfkigaldejbeiaaOwW
import Derived.Test.YtfkigaldejbeiaaOwP
import Derived.Test.YtfkigaldejbeiaaMgE
namespace Go.Proofs.Ytfkigaldejbeiaa.orderMixes
open Go.ChangeShapes Go.WideShapes Go.ChangeAt Go.RowKit
open Go.AM Go.Proofs.Ytfkigaldejbeiaa.Up
open Go.Proofs.Ytfkigaldejbeiaa.Rows (uptoBulk uptoBulkAll uptoSmall)
set_option maxRecDepth 20000
theorem own:ownKnob Try.prog.godebug=none:=by kernel_rfl
theorem laid:laidOutB Try.prog=true:=by kernel_rfl
theorem CY:Try.prog.cellsOf 3=1:=by kernel_rfl
theorem DD:cK Try.prog 37 Go.DN.aT Go.DN.Cr:=fun eo W base sp held aJ cs x h hu=>by
 obtain⟨xs,n,_,rfl,hl,hlen,hf⟩:=DataW.trod_struct Try.underlying37 h
 have hub:uptoBulkAll (xs.map (·.1))≤1048576:=by have:=hu;simp only[uptoBulk] at this;omega
 obtain⟨a0,o0,r0⟩:=cK.field hlen hf 0 rfl (cK.slice Try.underlying22 CY (cK.of (jc.int Try.underlying3))) hub
 obtain⟨a1,o1,r1⟩:=cK.field hlen hf 1 rfl (cK.of (jc.int Try.underlying3)) hub
 exact⟨⟨a0,a1⟩,⟨o0,o1⟩,(r0.append rfl r1).all (hl.trans (show Try.prog.cellsOf 37=2 by kernel_rfl))⟩
theorem JK:Try.prog.cellsOf 37=2:=by kernel_rfl
theorem PZ:cK Try.prog 59 Go.DN.bp Go.DN.Ez:=fun eo W base sp held aJ cs x h hu=>by
 obtain⟨xs,n,_,rfl,hl,hlen,hf⟩:=DataW.trod_struct Try.underlying59 h
 have hub:uptoBulkAll (xs.map (·.1))≤1048576:=by have:=hu;simp only[uptoBulk] at this;omega
 obtain⟨a0,o0,r0⟩:=cK.field hlen hf 0 rfl (cK.slice Try.underlying22 CY (cK.of (jc.int Try.underlying3))) hub
 obtain⟨a1,o1,r1⟩:=cK.field hlen hf 1 rfl (cK.slice Try.underlying34 JK DD) hub
 exact⟨⟨a0,a1⟩,⟨o0,o1⟩,(r0.append rfl r1).all (hl.trans (show Try.prog.cellsOf 59=2 by kernel_rfl))⟩
theorem Jc:cK Try.prog 61 Go.DN.bF Go.DN.yE:=fun eo W base sp held aJ cs x h hu=>by
 obtain⟨xs,n,_,rfl,hl,hlen,hf⟩:=DataW.trod_struct Try.underlying61 h
 have hub:uptoBulkAll (xs.map (·.1))≤1048576:=by have:=hu;simp only[uptoBulk] at this;omega
 obtain⟨a0,o0,r0⟩:=cK.field hlen hf 0 rfl (cK.of (jc.int Try.underlying3)) hub
 obtain⟨a1,o1,r1⟩:=cK.field hlen hf 1 rfl DD hub
 exact⟨⟨a0,a1⟩,⟨o0,o1⟩,(r0.append rfl r1).all (hl.trans (show Try.prog.cellsOf 61=3 by kernel_rfl))⟩
theorem Qx:Try.prog.cellsOf 61=3:=by kernel_rfl
theorem PX:cK Try.prog 64 Go.DN.dh Go.DN.Jd:=fun eo W base sp held aJ cs x h hu=>by
 obtain⟨xs,n,_,rfl,hl,hlen,hf⟩:=DataW.trod_struct Try.underlying64 h
 have hub:uptoBulkAll (xs.map (·.1))≤1048576:=by have:=hu;simp only[uptoBulk] at this;omega
 obtain⟨a0,o0,r0⟩:=cK.field hlen hf 0 rfl PZ hub
 obtain⟨a1,o1,r1⟩:=cK.field hlen hf 1 rfl (cK.of (jc.int Try.underlying3)) hub
 obtain⟨a2,o2,r2⟩:=cK.field hlen hf 2 rfl (cK.of (jc.int Try.underlying2)) hub
 obtain⟨a3,o3,r3⟩:=cK.field hlen hf 3 rfl Jc hub
 obtain⟨a4,o4,r4⟩:=cK.field hlen hf 4 rfl (cK.slice Try.underlying62 Qx Jc) hub
 exact⟨⟨a0,a1,a2,a3,a4⟩,⟨o0,o1,o2,o3,o4⟩,(r0.append rfl (r1.append rfl (r2.append rfl (r3.append rfl r4)))).all (hl.trans (show Try.prog.cellsOf 64=8 by kernel_rfl))⟩
theorem Qw:Try.prog.cellsOf 64=8:=by kernel_rfl
theorem P0:cK Try.prog 25 Go.DN.aO Go.DN.Je:=fun eo W base sp held aJ cs x h hu=>by
 obtain⟨xs,n,_,rfl,hl,hlen,hf⟩:=DataW.trod_struct Try.underlying25 h
 have hub:uptoBulkAll (xs.map (·.1))≤1048576:=by have:=hu;simp only[uptoBulk] at this;omega
 obtain⟨a0,o0,r0⟩:=cK.field hlen hf 0 rfl (cK.slice Try.underlying22 CY (cK.of (jc.int Try.underlying3))) hub
 obtain⟨a1,o1,r1⟩:=cK.field hlen hf 1 rfl (cK.slice Try.underlying23 Qw PX) hub
 exact⟨⟨a0,a1⟩,⟨o0,o1⟩,(r0.append rfl r1).all (hl.trans (show Try.prog.cellsOf 25=2 by kernel_rfl))⟩
theorem Qy:Try.prog.cellsOf 34=1:=by kernel_rfl
theorem RF:Try.prog.cellsOf 2=1:=by kernel_rfl
theorem OJ:Try.prog.cellsOf 104=1:=by kernel_rfl
theorem Kw:Try.prog.readableRec 22=true∧22<Try.prog.types.size:=⟨by kernel_rfl,of_decide_eq_true (by kernel_rfl)⟩
theorem Kv:Try.prog.readableRec 25=true∧25<Try.prog.types.size:=⟨by kernel_rfl,of_decide_eq_true (by kernel_rfl)⟩
theorem Ku:Try.prog.readableRec 31=true∧31<Try.prog.types.size:=⟨by kernel_rfl,of_decide_eq_true (by kernel_rfl)⟩
theorem Kt:Try.prog.readableRec 48=true∧48<Try.prog.types.size:=⟨by kernel_rfl,of_decide_eq_true (by kernel_rfl)⟩
theorem ep (H:Type) (eo:TypeId×Value→H) (W:World) (base:Nat) (args:Array Value) (ds gs:List (DataW H)) (before:List MemPlace)
  (hval:∀(j:Nat) t v,Try.f7.params[j]?=some t→args[j]?=some v→Value.okWide Try.prog W .any base t v)
  (hW:DataW.Whole eo Try.prog Try.f7.params.toList Rows.orderMixesSpec.vars false W args.toList ds gs before) (hk:Rows.uptoSmall H (ds++gs)=true):
  Calls Try.prog 7 args W fun e W'=>∃v,e=.returned v∧Rows.orderMixesSpec.post eo Try.prog Try.f7 false true false false W args v W':=by
 have hW':=hW
 obtain⟨p,q,hA0,hV,rfl,hfz,cP⟩:=hW
 have hA:DataW.TrodAll eo Try.prog W 0 (fun _=>true) true Try.f7.params.toList args.toList ds p:=hA0
 rw[Try.params7] at hA hval
 obtain⟨v0,vs0,d0,ds0,p0,q0,hargs,rfl,rfl,h0,r0⟩:=trodAll_cons hA
 obtain⟨v1,vs1,d1,ds1,p1,q1,rfl,rfl,rfl,h1,r1⟩:=trodAll_cons r0
 obtain⟨v2,vs2,d2,ds2,p2,q2,rfl,rfl,rfl,h2,r2⟩:=trodAll_cons r1
 obtain⟨v3,vs3,d3,ds3,p3,q3,rfl,rfl,rfl,h3,r3⟩:=trodAll_cons r2
 obtain⟨rfl,rfl,rfl⟩:=trodAll_nil r3
 obtain rfl:args=#[v0,v1,v2,v3]:=by cases args;simp_all
 have hk2:=of_decide_eq_true hk
 obtain⟨x0,k0,a0⟩:=OW P0 Try.underlying25 (hval 0 25 v0 rfl rfl) h0 (cE (oX (by simp)) hk2)
 obtain⟨x1,k1,a1⟩:=BR (cK.slice Try.underlying31 Qy (cK.slice Try.underlying34 JK DD)) (by rw[Try.underlying31];intro _ h;cases h) (by rw[Try.underlying31];intro _ _ h;cases h) (hval 1 31 v1 rfl rfl) h1 (cE (oX (by simp)) hk2)
 obtain⟨x2,k2,a2⟩:=BR (cK.slice Try.underlying48 OJ (cK.slice Try.underlying104 RF (cK.of (jc.int Try.underlying2)))) (by rw[Try.underlying48];intro _ h;cases h) (by rw[Try.underlying48];intro _ _ h;cases h) (hval 2 48 v2 rfl rfl) h2 (cE (oX (by simp)) hk2)
 obtain⟨x3,k3,a3⟩:=BR (cK.slice Try.underlying22 CY (cK.of (jc.int Try.underlying3))) (by rw[Try.underlying22];intro _ h;cases h) (by rw[Try.underlying22];intro _ _ h;cases h) (hval 3 22 v3 rfl rfl) h3 (cE (oX (by simp)) hk2)
 obtain⟨fu,hfu⟩:=Go.DN.Fh x0 x1 x2 x3 k0 k1 k2 k3
 have hg:=Go.DN.aP.law (Go.DN.re fu) (q:=(x0,x1,x2,x3)) (r:=true) (gs:=[.agg (aK.cells x0),.sl (List.length x1) (cU x1),.sl (List.length x2) (cU x2),.sl (List.length x3) (cU x3)]) hfu (by kernel_rfl) (by kernel_rfl) (by kernel_rfl) (by kernel_rfl)
 refine(hg.calls W [v0,v1,v2,v3] rfl fun j g v hg hv=>?_).mono fun e W' ⟨he,hS⟩=>?_
 ·match j,hg,hv with
  | 0,hg,hv=>cases hg;cases hv;exact a0
  | 1,hg,hv=>cases hg;cases hv;exact a1 _ rfl
  | 2,hg,hv=>cases hg;cases hv;exact a2 _ rfl
  | 3,hg,hv=>cases hg;cases hv;exact a3 _ rfl
  | j+4,hg,hv=>simp at hg
 ·subst he
  exact⟨_,rfl,NM rfl (by kernel_rfl) Try.underlying4 laid (by rw[Try.params7];exact ai.2 ⟨Kv,ai.2 ⟨Ku,ai.2 ⟨Kt,ai.2 ⟨Kw,fun _ h=>by cases h⟩⟩⟩⟩) hW' hS (fun h=>by subst h;rfl)⟩
set_option maxRecDepth 100000 in
theorem lifted (os : Os) (started : os.Started) (H : Type) (eo : TypeId × Value → H) (F : Stop.Interp) :
    ReturnsInHanded {} Try.checked os 7 .any ((Rows.OpenSpec.upto Rows.orderMixesSpec).pre6 eo Try.prog Try.f7 Rows.orderMixesUptoRow.domain false) (((Rows.OpenSpec.upto Rows.orderMixesSpec).at F).post eo Try.prog Try.f7 false true false false) := by
  refine returnsInHanded_of_cond (C := Try.checked) (s := Rows.OpenSpec.upto Rows.orderMixesSpec) (k := Rows.uptoSmall) rfl own started (by kernel_rfl) Try.func7
    (OpenSpec.witness (enc := eo) (C := Try.checked) (s := Rows.OpenSpec.upto Rows.orderMixesSpec) (k := Rows.uptoSmall) rfl false ⟨#[], #[.agg #[.slice none 0 0, .slice none 0 0], .slice none 0 0, .slice none 0 0, .slice none 0 0], []⟩ 8 (by kernel_rfl) (by kernel_rfl) (by kernel_rfl)
      (x := ([.agg [.nil, .nil], .nil, .nil, .nil], [], [])) (by kernel_rfl) rfl (by kernel_rfl)) ?_
  intro W base args ds gs before hval hW _ hk _
  exact ep H eo W base args ds gs before hval hW hk
theorem proved:Rows.OrderMixesUptoSaid:=
 OpenClaim.holds_of_cond 7 Try.f7 rfl rfl rfl rfl rfl rfl rfl ⟨rfl,rfl,rfl,rfl,rfl⟩ rfl rfl rfl rfl rfl (by kernel_rfl) Try.func7 (by kernel_rfl)
  (of_decide_eq_true (by kernel_rfl)) (by unfold Func.isWrapper;first | (rw[if_pos (by decide +kernel)];kernel_rfl) | (rw[if_neg (by decide +kernel)];exact⟨rfl,rfl⟩))
  (fun os started H eo _ F=>lifted os started H eo F)
end Go.Proofs.Ytfkigaldejbeiaa.orderMixes
