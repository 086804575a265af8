/-
  OrderFinds: the row: for every input the law returns true, and each argument reads as it did (inputs of bulk at most 1048576).
-/
import Derived.Test.YtfkigaldejbeiaaOwW
import Derived.Test.YtfkigaldejbeiaaOwP
import Derived.Test.YtfkigaldejbeiaaMgE
namespace Go.Proofs.Ytfkigaldejbeiaa.orderFinds
open Go.ChangeShapes Go.WideShapes Go.ChangeAt Go.RowKit
open Go.AM Go.Proofs.Ytfkigaldejbeiaa.Up
open Go.Proofs.Ytfkigaldejbeiaa.Rows (uptoBulk uptoBulkAll uptoSmall)
set_option maxRecDepth 20000
theorem own:ownKnob Try.prog.godebug=none:=by kernel_rfl
theorem laid:laidOutB Try.prog=true:=by kernel_rfl
theorem cells3:Try.prog.cellsOf 3=1:=by kernel_rfl
theorem opens37:OpensU Try.prog 37 Go.DN.SRow Go.DN.okSRow:=fun enc W base sp held fuel cs x h hu=>by
 obtain⟨xs,n,_,rfl,hl,hlen,hf⟩:=DataW.trod_struct Try.underlying37 h
 have hub:uptoBulkAll (xs.map (·.1))≤1048576:=by have:=hu;simp only[uptoBulk] at this;omega
 obtain⟨a0,o0,r0⟩:=OpensU.field hlen hf 0 rfl (OpensU.slice Try.underlying22 cells3 (OpensU.of (Opens.int Try.underlying3))) hub
 obtain⟨a1,o1,r1⟩:=OpensU.field hlen hf 1 rfl (OpensU.of (Opens.int Try.underlying3)) hub
 exact⟨⟨a0,a1⟩,⟨o0,o1⟩,(r0.append rfl r1).all (hl.trans (show Try.prog.cellsOf 37=2 by kernel_rfl))⟩
theorem cells37:Try.prog.cellsOf 37=2:=by kernel_rfl
theorem opens59:OpensU Try.prog 59 Go.DN.SPoints Go.DN.okSPoints:=fun enc W base sp held fuel cs x h hu=>by
 obtain⟨xs,n,_,rfl,hl,hlen,hf⟩:=DataW.trod_struct Try.underlying59 h
 have hub:uptoBulkAll (xs.map (·.1))≤1048576:=by have:=hu;simp only[uptoBulk] at this;omega
 obtain⟨a0,o0,r0⟩:=OpensU.field hlen hf 0 rfl (OpensU.slice Try.underlying22 cells3 (OpensU.of (Opens.int Try.underlying3))) hub
 obtain⟨a1,o1,r1⟩:=OpensU.field hlen hf 1 rfl (OpensU.slice Try.underlying34 cells37 opens37) hub
 exact⟨⟨a0,a1⟩,⟨o0,o1⟩,(r0.append rfl r1).all (hl.trans (show Try.prog.cellsOf 59=2 by kernel_rfl))⟩
theorem opens61:OpensU Try.prog 61 Go.DN.SAccess Go.DN.okSAccess:=fun enc W base sp held fuel cs x h hu=>by
 obtain⟨xs,n,_,rfl,hl,hlen,hf⟩:=DataW.trod_struct Try.underlying61 h
 have hub:uptoBulkAll (xs.map (·.1))≤1048576:=by have:=hu;simp only[uptoBulk] at this;omega
 obtain⟨a0,o0,r0⟩:=OpensU.field hlen hf 0 rfl (OpensU.of (Opens.int Try.underlying3)) hub
 obtain⟨a1,o1,r1⟩:=OpensU.field hlen hf 1 rfl opens37 hub
 exact⟨⟨a0,a1⟩,⟨o0,o1⟩,(r0.append rfl r1).all (hl.trans (show Try.prog.cellsOf 61=3 by kernel_rfl))⟩
theorem cells61:Try.prog.cellsOf 61=3:=by kernel_rfl
theorem opens64:OpensU Try.prog 64 Go.DN.SStmt Go.DN.okSStmt:=fun enc W base sp held fuel cs x h hu=>by
 obtain⟨xs,n,_,rfl,hl,hlen,hf⟩:=DataW.trod_struct Try.underlying64 h
 have hub:uptoBulkAll (xs.map (·.1))≤1048576:=by have:=hu;simp only[uptoBulk] at this;omega
 obtain⟨a0,o0,r0⟩:=OpensU.field hlen hf 0 rfl opens59 hub
 obtain⟨a1,o1,r1⟩:=OpensU.field hlen hf 1 rfl (OpensU.of (Opens.int Try.underlying3)) hub
 obtain⟨a2,o2,r2⟩:=OpensU.field hlen hf 2 rfl (OpensU.of (Opens.int Try.underlying2)) hub
 obtain⟨a3,o3,r3⟩:=OpensU.field hlen hf 3 rfl opens61 hub
 obtain⟨a4,o4,r4⟩:=OpensU.field hlen hf 4 rfl (OpensU.slice Try.underlying62 cells61 opens61) hub
 exact⟨⟨a0,a1,a2,a3,a4⟩,⟨o0,o1,o2,o3,o4⟩,(r0.append rfl (r1.append rfl (r2.append rfl (r3.append rfl r4)))).all (hl.trans (show Try.prog.cellsOf 64=8 by kernel_rfl))⟩
theorem cells64:Try.prog.cellsOf 64=8:=by kernel_rfl
theorem opens25:OpensU Try.prog 25 Go.DN.SNest Go.DN.okSNest:=fun enc W base sp held fuel cs x h hu=>by
 obtain⟨xs,n,_,rfl,hl,hlen,hf⟩:=DataW.trod_struct Try.underlying25 h
 have hub:uptoBulkAll (xs.map (·.1))≤1048576:=by have:=hu;simp only[uptoBulk] at this;omega
 obtain⟨a0,o0,r0⟩:=OpensU.field hlen hf 0 rfl (OpensU.slice Try.underlying22 cells3 (OpensU.of (Opens.int Try.underlying3))) hub
 obtain⟨a1,o1,r1⟩:=OpensU.field hlen hf 1 rfl (OpensU.slice Try.underlying23 cells64 opens64) hub
 exact⟨⟨a0,a1⟩,⟨o0,o1⟩,(r0.append rfl r1).all (hl.trans (show Try.prog.cellsOf 25=2 by kernel_rfl))⟩
theorem cells34:Try.prog.cellsOf 34=1:=by kernel_rfl
theorem readable25:Try.prog.readableRec 25=true∧25<Try.prog.types.size:=⟨by kernel_rfl,of_decide_eq_true (by kernel_rfl)⟩
theorem readable31:Try.prog.readableRec 31=true∧31<Try.prog.types.size:=⟨by kernel_rfl,of_decide_eq_true (by kernel_rfl)⟩
theorem contract (H:Type) (enc:TypeId×Value→H) (W:World) (base:Nat) (args:Array Value) (ds gs:List (DataW H)) (before:List MemPlace)
  (hval:∀(j:Nat) t v,Try.f4.params[j]?=some t→args[j]?=some v→Value.okWide Try.prog W .any base t v)
  (hW:DataW.Whole enc Try.prog Try.f4.params.toList Rows.orderFindsSpec.vars false W args.toList ds gs before) (hk:Rows.uptoSmall H (ds++gs)=true):
  Calls Try.prog 4 args W fun e W'=>∃v,e=.returned v∧Rows.orderFindsSpec.post enc Try.prog Try.f4 false true false false W args v W':=by
 have hW':=hW
 obtain⟨p,q,hA0,hV,rfl,hfz,hnd⟩:=hW
 have hA:DataW.TrodAll enc Try.prog W 0 (fun _=>true) true Try.f4.params.toList args.toList ds p:=hA0
 rw[Try.params4] at hA hval
 obtain⟨v0,vs0,d0,ds0,p0,q0,hargs,rfl,rfl,h0,r0⟩:=trodAll_cons hA
 obtain⟨v1,vs1,d1,ds1,p1,q1,rfl,rfl,rfl,h1,r1⟩:=trodAll_cons r0
 obtain⟨rfl,rfl,rfl⟩:=trodAll_nil r1
 obtain rfl:args=#[v0,v1]:=by cases args;simp_all
 have hk2:=of_decide_eq_true hk
 obtain⟨x0,k0,a0⟩:=argU_agg opens25 Try.underlying25 (hval 0 25 v0 rfl rfl) h0 (Nat.le_trans (bulk_mem (by simp)) hk2)
 obtain⟨x1,k1,a1⟩:=argU_one (OpensU.slice Try.underlying31 cells34 (OpensU.slice Try.underlying34 cells37 opens37)) (by rw[Try.underlying31];intro _ h;cases h) (by rw[Try.underlying31];intro _ _ h;cases h) (hval 1 31 v1 rfl rfl) h1 (Nat.le_trans (bulk_mem (by simp)) hk2)
 obtain⟨fu,hfu⟩:=Go.DN.orderFindsLaw x0 x1 k0 k1
 have hg:=Go.DN.ConOk.law (Go.DN.c_adjointlaw11_OrderFinds_ok fu) (q:=(x0,x1)) (r:=true) (gs:=[.agg (Enc.cells x0),.sl (List.length x1) (encs x1)]) hfu (by kernel_rfl) (by kernel_rfl) (by kernel_rfl) (by kernel_rfl)
 refine(hg.calls W [v0,v1] rfl fun j g v hg hv=>?_).mono fun e W' ⟨he,hS⟩=>?_
 ·match j,hg,hv with
  | 0,hg,hv=>cases hg;cases hv;exact a0
  | 1,hg,hv=>cases hg;cases hv;exact a1 _ rfl
  | j+2,hg,hv=>simp at hg
 ·subst he
  exact⟨_,rfl,post_law rfl (by kernel_rfl) Try.underlying4 laid (by rw[Try.params4];exact List.forall_mem_cons.2 ⟨readable25,List.forall_mem_cons.2 ⟨readable31,fun _ h=>by cases h⟩⟩) hW' hS (fun h=>by subst h;rfl)⟩
set_option maxRecDepth 100000 in
theorem lifted (os:Os) (started:os.Started) (H:Type) (enc:TypeId×Value→H) (F:Stop.Interp):
  ReturnsInHanded {} Try.checked os 4 .any ((Rows.OpenSpec.upto Rows.orderFindsSpec).pre6 enc Try.prog Try.f4 Rows.orderFindsUptoRow.domain false) (((Rows.OpenSpec.upto Rows.orderFindsSpec).at F).post enc Try.prog Try.f4 false true false false):=by
 refine returnsInHanded_of_cond (C:=Try.checked) (s:=Rows.OpenSpec.upto Rows.orderFindsSpec) (k:=Rows.uptoSmall) rfl own started (by kernel_rfl) Try.func4
  (OpenSpec.witness (enc:=enc) (C:=Try.checked) (s:=Rows.OpenSpec.upto Rows.orderFindsSpec) (k:=Rows.uptoSmall) rfl false ⟨#[],#[.agg #[.slice none 0 0,.slice none 0 0],.slice none 0 0],[]⟩ 8 (by kernel_rfl) (by kernel_rfl) (by kernel_rfl)
   (x:=([.agg [.nil,.nil],.nil],[],[])) (by kernel_rfl) rfl (by kernel_rfl)) ?_
 intro W base args ds gs before hval hW _ hk _
 exact contract H enc W base args ds gs before hval hW hk
theorem proved:Rows.OrderFindsUptoSaid:=
 OpenClaim.holds_of_cond 4 Try.f4 rfl rfl rfl rfl rfl rfl rfl ⟨rfl,rfl,rfl,rfl,rfl⟩ rfl rfl rfl rfl rfl (by kernel_rfl) Try.func4 (by kernel_rfl)
  (of_decide_eq_true (by kernel_rfl)) (by unfold Func.isWrapper;first | (rw[if_pos (by decide +kernel)];kernel_rfl) | (rw[if_neg (by decide +kernel)];exact⟨rfl,rfl⟩))
  (fun os started H enc _ F=>lifted os started H enc F)
end Go.Proofs.Ytfkigaldejbeiaa.orderFinds
