/-
  OrderPlain: the row: for every input the law returns true, and each argument reads as it did (inputs of bulk at most 1048576).
-/
import Derived.Test.YtfkigaldejbeiaaOwW
import Derived.Test.YtfkigaldejbeiaaOwP
import Derived.Test.YtfkigaldejbeiaaMgE
namespace Go.Proofs.Ytfkigaldejbeiaa.orderPlain
open Go.ChangeShapes Go.WideShapes Go.ChangeAt Go.RowKit
open Go.AM Go.Proofs.Ytfkigaldejbeiaa.Up
open Go.Proofs.Ytfkigaldejbeiaa.Rows (uptoBulk uptoBulkAll uptoSmall)
set_option maxRecDepth 20000
theorem own:ownKnob Try.prog.godebug=none:=by kernel_rfl
theorem laid:laidOutB Try.prog=true:=by kernel_rfl
theorem Dj:Try.prog.cellsOf 3=1:=by kernel_rfl
theorem Jz:cN Try.prog 37 Go.DN.aO Go.DN.Hp:=fun enc W base sp held aK cs x h hu=>by
 obtain⟨xs,n,_,rfl,hl,hlen,hf⟩:=DataW.trod_struct Try.underlying37 h
 have hub:uptoBulkAll (xs.map (·.1))≤1048576:=by have:=hu;simp only[uptoBulk] at this;omega
 obtain⟨a0,o0,r0⟩:=cN.field hlen hf 0 rfl (cN.slice Try.underlying22 Dj (cN.of (jf.int Try.underlying3))) hub
 obtain⟨a1,o1,r1⟩:=cN.field hlen hf 1 rfl (cN.of (jf.int Try.underlying3)) hub
 exact⟨⟨a0,a1⟩,⟨o0,o1⟩,(r0.append rfl r1).all (hl.trans (show Try.prog.cellsOf 37=2 by kernel_rfl))⟩
theorem QY:Try.prog.cellsOf 37=2:=by kernel_rfl
theorem Qr:cN Try.prog 59 Go.DN.bu Go.DN.ER:=fun enc W base sp held aK cs x h hu=>by
 obtain⟨xs,n,_,rfl,hl,hlen,hf⟩:=DataW.trod_struct Try.underlying59 h
 have hub:uptoBulkAll (xs.map (·.1))≤1048576:=by have:=hu;simp only[uptoBulk] at this;omega
 obtain⟨a0,o0,r0⟩:=cN.field hlen hf 0 rfl (cN.slice Try.underlying22 Dj (cN.of (jf.int Try.underlying3))) hub
 obtain⟨a1,o1,r1⟩:=cN.field hlen hf 1 rfl (cN.slice Try.underlying34 QY Jz) hub
 exact⟨⟨a0,a1⟩,⟨o0,o1⟩,(r0.append rfl r1).all (hl.trans (show Try.prog.cellsOf 59=2 by kernel_rfl))⟩
theorem Jy:cN Try.prog 61 Go.DN.bK Go.DN.yZ:=fun enc W base sp held aK cs x h hu=>by
 obtain⟨xs,n,_,rfl,hl,hlen,hf⟩:=DataW.trod_struct Try.underlying61 h
 have hub:uptoBulkAll (xs.map (·.1))≤1048576:=by have:=hu;simp only[uptoBulk] at this;omega
 obtain⟨a0,o0,r0⟩:=cN.field hlen hf 0 rfl (cN.of (jf.int Try.underlying3)) hub
 obtain⟨a1,o1,r1⟩:=cN.field hlen hf 1 rfl Jz hub
 exact⟨⟨a0,a1⟩,⟨o0,o1⟩,(r0.append rfl r1).all (hl.trans (show Try.prog.cellsOf 61=3 by kernel_rfl))⟩
theorem QX:Try.prog.cellsOf 61=3:=by kernel_rfl
theorem Qq:cN Try.prog 64 Go.DN.c9 Go.DN.JA:=fun enc W base sp held aK cs x h hu=>by
 obtain⟨xs,n,_,rfl,hl,hlen,hf⟩:=DataW.trod_struct Try.underlying64 h
 have hub:uptoBulkAll (xs.map (·.1))≤1048576:=by have:=hu;simp only[uptoBulk] at this;omega
 obtain⟨a0,o0,r0⟩:=cN.field hlen hf 0 rfl Qr hub
 obtain⟨a1,o1,r1⟩:=cN.field hlen hf 1 rfl (cN.of (jf.int Try.underlying3)) hub
 obtain⟨a2,o2,r2⟩:=cN.field hlen hf 2 rfl (cN.of (jf.int Try.underlying2)) hub
 obtain⟨a3,o3,r3⟩:=cN.field hlen hf 3 rfl Jy hub
 obtain⟨a4,o4,r4⟩:=cN.field hlen hf 4 rfl (cN.slice Try.underlying62 QX Jy) hub
 exact⟨⟨a0,a1,a2,a3,a4⟩,⟨o0,o1,o2,o3,o4⟩,(r0.append rfl (r1.append rfl (r2.append rfl (r3.append rfl r4)))).all (hl.trans (show Try.prog.cellsOf 64=8 by kernel_rfl))⟩
theorem QW:Try.prog.cellsOf 64=8:=by kernel_rfl
theorem Qs:cN Try.prog 25 Go.DN.aM Go.DN.JB:=fun enc W base sp held aK cs x h hu=>by
 obtain⟨xs,n,_,rfl,hl,hlen,hf⟩:=DataW.trod_struct Try.underlying25 h
 have hub:uptoBulkAll (xs.map (·.1))≤1048576:=by have:=hu;simp only[uptoBulk] at this;omega
 obtain⟨a0,o0,r0⟩:=cN.field hlen hf 0 rfl (cN.slice Try.underlying22 Dj (cN.of (jf.int Try.underlying3))) hub
 obtain⟨a1,o1,r1⟩:=cN.field hlen hf 1 rfl (cN.slice Try.underlying23 QW Qq) hub
 exact⟨⟨a0,a1⟩,⟨o0,o1⟩,(r0.append rfl r1).all (hl.trans (show Try.prog.cellsOf 25=2 by kernel_rfl))⟩
theorem R6:Try.prog.cellsOf 2=1:=by kernel_rfl
theorem Pa:Try.prog.cellsOf 104=1:=by kernel_rfl
theorem KU:Try.prog.readableRec 22=true∧22<Try.prog.types.size:=⟨by kernel_rfl,of_decide_eq_true (by kernel_rfl)⟩
theorem KT:Try.prog.readableRec 25=true∧25<Try.prog.types.size:=⟨by kernel_rfl,of_decide_eq_true (by kernel_rfl)⟩
theorem KS:Try.prog.readableRec 48=true∧48<Try.prog.types.size:=⟨by kernel_rfl,of_decide_eq_true (by kernel_rfl)⟩
theorem ew (H:Type) (enc:TypeId×Value→H) (W:World) (base:Nat) (args:Array Value) (ds gs:List (DataW H)) (before:List MemPlace)
  (hval:∀(j:Nat) t v,Try.f9.params[j]?=some t→args[j]?=some v→Value.okWide Try.prog W .any base t v)
  (hW:DataW.Whole enc Try.prog Try.f9.params.toList Rows.orderPlainSpec.vars false W args.toList ds gs before) (hk:Rows.uptoSmall H (ds++gs)=true):
  Calls Try.prog 9 args W fun e W'=>∃v,e=.returned v∧Rows.orderPlainSpec.post enc Try.prog Try.f9 false true false false W args v W':=by
 have hW':=hW
 obtain⟨p,q,hA0,hV,rfl,hfz,cR⟩:=hW
 have hA:DataW.TrodAll enc Try.prog W 0 (fun _=>true) true Try.f9.params.toList args.toList ds p:=hA0
 rw[Try.params9] at hA hval
 obtain⟨v0,vs0,d0,ds0,p0,q0,hargs,rfl,rfl,h0,r0⟩:=trodAll_cons hA
 obtain⟨v1,vs1,d1,ds1,p1,q1,rfl,rfl,rfl,h1,r1⟩:=trodAll_cons r0
 obtain⟨v2,vs2,d2,ds2,p2,q2,rfl,rfl,rfl,h2,r2⟩:=trodAll_cons r1
 obtain⟨rfl,rfl,rfl⟩:=trodAll_nil r2
 obtain rfl:args=#[v0,v1,v2]:=by cases args;simp_all
 have hk2:=of_decide_eq_true hk
 obtain⟨x0,k0,a0⟩:=Pp Qs Try.underlying25 (hval 0 25 v0 rfl rfl) h0 (cB (rr (by simp)) hk2)
 obtain⟨x1,k1,a1⟩:=IS (cN.slice Try.underlying48 Pa (cN.slice Try.underlying104 R6 (cN.of (jf.int Try.underlying2)))) (by rw[Try.underlying48];intro _ h;cases h) (by rw[Try.underlying48];intro _ _ h;cases h) (hval 1 48 v1 rfl rfl) h1 (cB (rr (by simp)) hk2)
 obtain⟨x2,k2,a2⟩:=IS (cN.slice Try.underlying22 Dj (cN.of (jf.int Try.underlying3))) (by rw[Try.underlying22];intro _ h;cases h) (by rw[Try.underlying22];intro _ _ h;cases h) (hval 2 22 v2 rfl rfl) h2 (cB (rr (by simp)) hk2)
 obtain⟨fu,hfu⟩:=Go.DN.FC x0 x1 x2 k0 k1 k2
 have hg:=Go.DN.aP.law (Go.DN.rq fu) (q:=(x0,x1,x2)) (r:=true) (gs:=[.agg (aL.cells x0),.sl (List.length x1) (c8 x1),.sl (List.length x2) (c8 x2)]) hfu (by kernel_rfl) (by kernel_rfl) (by kernel_rfl) (by kernel_rfl)
 refine(hg.calls W [v0,v1,v2] rfl fun j g v hg hv=>?_).mono fun e W' ⟨he,hS⟩=>?_
 ·match j,hg,hv with
  | 0,hg,hv=>cases hg;cases hv;exact a0
  | 1,hg,hv=>cases hg;cases hv;exact a1 _ rfl
  | 2,hg,hv=>cases hg;cases hv;exact a2 _ rfl
  | j+3,hg,hv=>simp at hg
 ·subst he
  exact⟨_,rfl,Oe rfl (by kernel_rfl) Try.underlying4 laid (by rw[Try.params9];exact ai.2 ⟨KT,ai.2 ⟨KS,ai.2 ⟨KU,fun _ h=>by cases h⟩⟩⟩) hW' hS (fun h=>by subst h;rfl)⟩
set_option maxRecDepth 100000 in
theorem lifted (os:Os) (started:os.Started) (H:Type) (enc:TypeId×Value→H) (F:Stop.Interp):
  ReturnsInHanded {} Try.checked os 9 .any ((Rows.OpenSpec.upto Rows.orderPlainSpec).pre6 enc Try.prog Try.f9 Rows.orderPlainUptoRow.domain false) (((Rows.OpenSpec.upto Rows.orderPlainSpec).at F).post enc Try.prog Try.f9 false true false false):=by
 refine returnsInHanded_of_cond (C:=Try.checked) (s:=Rows.OpenSpec.upto Rows.orderPlainSpec) (k:=Rows.uptoSmall) rfl own started (by kernel_rfl) Try.func9
  (OpenSpec.witness (enc:=enc) (C:=Try.checked) (s:=Rows.OpenSpec.upto Rows.orderPlainSpec) (k:=Rows.uptoSmall) rfl false ⟨#[],#[.agg #[.slice none 0 0,.slice none 0 0],.slice none 0 0,.slice none 0 0],[]⟩ 8 (by kernel_rfl) (by kernel_rfl) (by kernel_rfl)
   (x:=([.agg [.nil,.nil],.nil,.nil],[],[])) (by kernel_rfl) rfl (by kernel_rfl)) ?_
 intro W base args ds gs before hval hW _ hk _
 exact ew H enc W base args ds gs before hval hW hk
theorem proved:Rows.OrderPlainUptoSaid:=
 OpenClaim.holds_of_cond 9 Try.f9 rfl rfl rfl rfl rfl rfl rfl ⟨rfl,rfl,rfl,rfl,rfl⟩ rfl rfl rfl rfl rfl (by kernel_rfl) Try.func9 (by kernel_rfl)
  (of_decide_eq_true (by kernel_rfl)) (by unfold Func.isWrapper;first | (rw[if_pos (by decide +kernel)];kernel_rfl) | (rw[if_neg (by decide +kernel)];exact⟨rfl,rfl⟩))
  (fun os started H enc _ F=>lifted os started H enc F)
end Go.Proofs.Ytfkigaldejbeiaa.orderPlain
