/-
  GraphAfters: the row: for every input (of bulk at most 1048576) the law returns true, and each argument reads as it did.
-/
import Derived.Test.YtongekoajbcliaaGreatDoorAnW
import Derived.Test.YtongekoajbcliaaGreatDoorTyP
import Derived.Test.YtongekoajbcliaaGreatDoorMgE
import Derived.Test.YtongekoajbcliaaGreatDoorTie
import Derived.Test.YtongekoajbcliaaGreatDoorCards
import Derived.ProofKit
import Derived.OpenShut
import Derived.LaidMore
import Derived.Lay
import Derived.SevenTiedAt
import Derived.Stop.Joined
import Derived.Stop.LaidErr
import Derived.Deep.DeepHandedRow
set_option linter.all false
namespace Go.Proofs.YtongekoajbcliaaGreatDoor.graphAfters
open Go.ChangeShapes Go.WideShapes Go.ChangeAt Go.RowKit
open Go.AM Go.Proofs.YtongekoajbcliaaGreatDoor.Up
open Go.Proofs.YtongekoajbcliaaGreatDoor.Rows (uptoBulk uptoBulkAll uptoSmall laid_internal_strconv_uint64pow10)
set_option maxRecDepth 20000
theorem YX {P:Program}{n:String}{r:List (String×DataW Unit)}{W:World}{g:Nat}{ta te:TypeId}(h:laidMet P ((n,laid_internal_strconv_uint64pow10)::r) W) (hg:P.globalNamed n=some g) (ht:(P.globals[g]?).map (·.type)=some ta) (ha:P.underlying ta=some (.array 20 te)) (he:P.underlying te=some (.int .u64)) (hce:P.cellsOf te=1) (hca:P.cellsOf ta=20):
  g<W.heap.size∧¬(fun _:Nat=>False) g∧∃cs e f,W.heap[g]?=some (.cells cs e f)∧G3 cs:=by
 obtain⟨ps,⟨g0,t0,cs0,f0,p0,q0,hg0,ht0,hv0,hd0,_,e0⟩,_,hrows⟩:=h;obtain rfl:=ed (hg.symm.trans hg0);obtain rfl:=ed (ht.symm.trans ht0);have hcs:G3 cs0:=by
  obtain⟨xs,m,_,hx,hl,hxl,hi⟩:=DataW.trod_array ha hd0;have hxs:xs.map (·.1)=(List.range 20).map fun i=>(DataW.lit (.int .u64 ((10^i:Nat):Int)):DataW Unit):=by
   have h1:=congrArg Prod.fst hx;exact(DataW.agg.inj h1).symm
  unfold G3;apply Array.ext';apply dm;intro i;rw[hca] at hl
  by_cases h20:i<20
  ·have h1:=hi i h20;rw[hce,pD] at h1;have hlt:i<cs0.toList.length:=by omega
   have e:(cs0.toList.drop i).take 1=[cs0.toList[i]]:=by rw[cT hlt];rfl
   rw[e,af (by omega)] at h1;obtain⟨k,h2,h3,_⟩:=DataW.trod_int he h1;have h4:(xs.map (·.1))[i]?=some (.lit (.int .u64 k)):=by rw[ao,af (by omega),h3];rfl
   rw[hxs,ao,cN h20] at h4;have h5:((10^i:Nat):Int)=k:=by
    have:=ed h4;have:=DataW.lit.inj this;exact(Lit.int.inj this).2
   rw[af hlt,ao,cN h20];have h6:=lz h2;rw[h6.1,←h5];rfl
  ·rw[bT (by omega),bT (by simp;omega)]
 simp only[World.var?,hg,aa] at hv0;split at hv0
 ·rename_i cs e f hb;cases hv0;exact⟨(ie.1 hb).1,fun h=>h,cs0,e,f,hb,hcs⟩
 ·cases hv0
theorem wX:Tryz.prog.cellsOf 3=1:=by kernel_rfl
theorem XJ:dW Tryz.prog 52 Go.DN.cq Go.DN.WQ:=fun gK W base sp held bK cs x h hu=>by
 obtain⟨xs,n,_,rfl,hl,hlen,hf⟩:=DataW.trod_struct Tryz.underlying52 h;have hub:uptoBulkAll (xs.map (·.1))≤1048576:=by have:=hu;simp only[uptoBulk] at this;omega
 obtain⟨a0,o0,r0⟩:=dW.field hlen hf 0 rfl (dW.of (oJ.int Tryz.underlying3)) hub;obtain⟨a1,o1,r1⟩:=dW.field hlen hf 1 rfl (dW.slice Tryz.underlying23 wX (dW.of (oJ.int Tryz.underlying3))) hub;obtain⟨a2,o2,r2⟩:=dW.field hlen hf 2 rfl (dW.slice Tryz.underlying23 wX (dW.of (oJ.int Tryz.underlying3))) hub;obtain⟨a3,o3,r3⟩:=dW.field hlen hf 3 rfl (dW.slice Tryz.underlying23 wX (dW.of (oJ.int Tryz.underlying3))) hub;obtain⟨a4,o4,r4⟩:=dW.field hlen hf 4 rfl (dW.slice Tryz.underlying23 wX (dW.of (oJ.int Tryz.underlying3))) hub;obtain⟨a5,o5,r5⟩:=dW.field hlen hf 5 rfl (dW.slice Tryz.underlying23 wX (dW.of (oJ.int Tryz.underlying3))) hub;obtain⟨a6,o6,r6⟩:=dW.field hlen hf 6 rfl (dW.of (oJ.int Tryz.underlying2)) hub;exact⟨⟨a0,a1,a2,a3,a4,a5,a6⟩,⟨o0,o1,o2,o3,o4,o5,o6⟩,(r0.append rfl (r1.append rfl (r2.append rfl (r3.append rfl (r4.append rfl (r5.append rfl r6)))))).all (hl.trans (show Tryz.prog.cellsOf 52=7 by kernel_rfl))⟩
theorem XI:dW Tryz.prog 54 Go.DN.ai Go.DN.O6:=fun gK W base sp held bK cs x h hu=>by
 obtain⟨xs,n,_,rfl,hl,hlen,hf⟩:=DataW.trod_struct Tryz.underlying54 h;have hub:uptoBulkAll (xs.map (·.1))≤1048576:=by have:=hu;simp only[uptoBulk] at this;omega
 obtain⟨a0,o0,r0⟩:=dW.field hlen hf 0 rfl XJ hub;obtain⟨a1,o1,r1⟩:=dW.field hlen hf 1 rfl (dW.slice Tryz.underlying23 wX (dW.of (oJ.int Tryz.underlying3))) hub;exact⟨⟨a0,a1⟩,⟨o0,o1⟩,(r0.append rfl r1).all (hl.trans (show Tryz.prog.cellsOf 54=8 by kernel_rfl))⟩
theorem Yl:Tryz.prog.cellsOf 54=8:=by kernel_rfl
theorem O3:dW Tryz.prog 25 Go.DN.bn Go.DN.Ag:=fun gK W base sp held bK cs x h hu=>by
 obtain⟨xs,n,_,rfl,hl,hlen,hf⟩:=DataW.trod_struct Tryz.underlying25 h;have hub:uptoBulkAll (xs.map (·.1))≤1048576:=by have:=hu;simp only[uptoBulk] at this;omega
 obtain⟨a0,o0,r0⟩:=dW.field hlen hf 0 rfl (dW.slice Tryz.underlying22 Yl XI) hub;obtain⟨a1,o1,r1⟩:=dW.field hlen hf 1 rfl (dW.slice Tryz.underlying23 wX (dW.of (oJ.int Tryz.underlying3))) hub;exact⟨⟨a0,a1⟩,⟨o0,o1⟩,(r0.append rfl r1).all (hl.trans (show Tryz.prog.cellsOf 25=2 by kernel_rfl))⟩
theorem own:ownKnob Tryz.prog.godebug=none:=by kernel_rfl
theorem laid:laidOutB Tryz.prog=true:=by kernel_rfl
theorem Gq:Tryz.prog.readableRec 25=true∧25 < Tryz.prog.types.size:=⟨by kernel_rfl,of_decide_eq_true (by kernel_rfl)⟩
theorem Zr {W:World}(h:laidMetH Tryz.prog Rows.graphAftersUptoRow.laid W):Jw (fun _=>False) W.heap.size W:=by
 rw[MakeChecks.laidMetH_plain _ _ _ (by kernel_rfl)] at h;have g0:=YX (laidMet.tail (laidMet.tail h)) (show Tryz.prog.globalNamed _=some 0 by kernel_rfl) (show(Tryz.prog.globals[0]?).map (·.type)=some 279 by kernel_rfl) Tryz.underlying279 Tryz.underlying265 (by kernel_rfl) (by kernel_rfl);exact cY.2 ⟨g0,fun _ h=>by cases h⟩
theorem e8 (H:Type) (gK:TypeId×Value→H) (W:World) (base:Nat) (args:Array Value) (ds gs:List (DataW H)) (before:List MemPlace)
  (hval:∀(j:Nat) t v,Tryz.f4.params[j]?=some t→args[j]?=some v→Value.okWide Tryz.prog W .any base t v)
  (hW:DataW.Whole gK Tryz.prog Tryz.f4.params.toList Rows.graphAftersSpec.vars false W args.toList ds gs before) (hk:Rows.uptoSmall H (ds++gs)=true) (hL:laidMetH Tryz.prog Rows.graphAftersUptoRow.laid W):
  Calls Tryz.prog 4 args W fun e W'=>∃v,e=.returned v∧Rows.graphAftersSpec.post gK Tryz.prog Tryz.f4 false true false false W args v W':=by
 have hW':=hW;obtain⟨p,q,hA0,hV,rfl,hfz,dw⟩:=hW;have hA:DataW.TrodAll gK Tryz.prog W 0 (fun _=>true) true Tryz.f4.params.toList args.toList ds p:=hA0;rw[Tryz.params4] at hA hval;obtain⟨v0,vs0,d0,ds0,p0,q0,hargs,rfl,rfl,h0,r0⟩:=trodAll_cons hA;obtain⟨v1,vs1,d1,ds1,p1,q1,rfl,rfl,rfl,h1,r1⟩:=trodAll_cons r0;obtain⟨rfl,rfl,rfl⟩:=trodAll_nil r1;obtain rfl:args=#[v0,v1]:=by cases args;simp_all
 have hk2:=of_decide_eq_true hk;obtain⟨x0,k0,a0⟩:=N4 O3 Tryz.underlying25 (hval 0 25 v0 rfl rfl) h0 (cL (xb (by simp)) hk2);obtain⟨x1,k1,a1⟩:=N4 O3 Tryz.underlying25 (hval 1 25 v1 rfl rfl) h1 (cL (xb (by simp)) hk2);obtain⟨fu,hfu⟩:=Go.DN.IL x0 x1 k0 k1;have hg:=Go.DN.aO.law (Go.DN.tX fu) (q:=(x0,x1)) (r:=true) (gs:=[.agg (aI.cells x0),.agg (aI.cells x1)]) hfu (by kernel_rfl) (by kernel_rfl) (by kernel_rfl) (by kernel_rfl);refine(hg.calls W [v0,v1] rfl (fun j g v hg hv=>?_) (Zr hL)).mono fun e W' ⟨he,hS⟩=>?_
 ·match j,hg,hv with
  | 0,hg,hv=>cases hg;cases hv;exact a0
  | 1,hg,hv=>cases hg;cases hv;exact a1
  | j+2,hg,hv=>simp at hg
 ·subst he;exact⟨_,rfl,U2 rfl (by kernel_rfl) Tryz.underlying4 laid (by rw[Tryz.params4];exact cY.2 ⟨Gq,cY.2 ⟨Gq,fun _ h=>by cases h⟩⟩) hW' hS (fun h=>by subst h;rfl)⟩
set_option maxRecDepth 100000 in
theorem lifted (os:Os) (started:os.Started) (H:Type) (gK:TypeId×Value→H) (F:Stop.Interp):
  ReturnsInHanded {} Tryz.checked os 4 .any ((Rows.OpenSpec.upto Rows.graphAftersSpec).preRow gK Tryz.prog Tryz.f4 Rows.graphAftersUptoRow.domain false Rows.graphAftersUptoRow.laid)
   (((Rows.OpenSpec.upto Rows.graphAftersSpec).at F).post gK Tryz.prog Tryz.f4 false true false false):=by
 refine returnsInHanded_of_row (C:=Tryz.checked) (s:=Rows.OpenSpec.upto Rows.graphAftersSpec) own started (by kernel_rfl) Tryz.func4 ?_ ?_
 ·refine⟨World.laidAll Tryz.prog os Rows.graphAftersUptoRow.laid,fun _ _=>0,⟨#[],#[.agg #[.slice none 0 0,.slice none 0 0],.agg #[.slice none 0 0,.slice none 0 0]],[]⟩,World.laidAll_os _ _ _,World.shaped_of_ZipB (by kernel_rfl) (by kernel_rfl),rfl,(Input.okWide_of_okWideB (by kernel_rfl)).2,?_,?_⟩
  ·refine OpenSpec.preRow_of_cond (x:=([.agg [.nil,.nil],.agg [.nil,.nil]],[],[])) 8 (by kernel_rfl) (by kernel_rfl) (fun k hk=>by cases hk;kernel_rfl) (by kernel_rfl) ?_;rw[MakeChecks.laidMetH_plain _ _ _ (by kernel_rfl)];exact laidMet_laidAll _ (by kernel_rfl) (by kernel_rfl)
  ·simp only[Assume.holds];exact⟨by simp,by simp,fun _=>Modest.zero,by simp,by simp⟩
 ·intro W base args ds gs before hval hW _ hk _ hL _ _;exact e8 H gK W base args ds gs before hval hW (hk _ rfl) hL
theorem row:Rows.GraphAftersUptoSaid:=
 OpenClaim.holds_of_cond 4 Tryz.f4 rfl rfl rfl rfl rfl rfl rfl ⟨rfl,rfl,rfl,rfl,rfl⟩ rfl rfl rfl rfl rfl (by kernel_rfl) Tryz.func4 (by kernel_rfl)
  (of_decide_eq_true (by kernel_rfl)) (by unfold Func.isWrapper;first | (rw[if_pos (by decide +kernel)];kernel_rfl) | (rw[if_neg (by decide +kernel)];exact⟨rfl,rfl⟩))
  (fun os started H gK _ F=>lifted os started H gK F)
theorem proved:Rows.GraphAftersUptoCardSaid:=
 Claim7.holds_tied_plain_at .later [] [.data, .data, .data] true (true, "97936f25f159374cfeb7d753f84985050d1e678dd71610f60beac32168145f40") true row (fun _ h => by cases h) (by kernel_rfl) (fun _ h => by cases h) graphAftersUpto_row_tie rfl ⟨rfl, rfl⟩ (by kernel_rfl) rfl
  (fun f fn hf hfn=>by
   obtain rfl : f = 4 := ed ((show Tryz.prog.funcNamed "adjoint/adjointlaw5.GraphAfters" = some 4 by kernel_rfl).symm.trans hf) |>.symm
   obtain rfl:fn=Tryz.f4:=(ed (Tryz.func4.symm.trans hfn)).symm;exact⟨by kernel_rfl,fun j t ht=>by
    rw[Tryz.params4] at ht;have hm:t∈[25,25]:=by simpa using Array.mem_of_getElem? ht
    have hall:([25,25].all fun u=>!Tryz.prog.wantsStandIn u)=true:=by kernel_rfl
    exact(show Tryz.prog.wantsStandIn t=false by simpa using dF.1 hall t hm)⟩)
  (by kernel_rfl)
end Go.Proofs.YtongekoajbcliaaGreatDoor.graphAfters
