/-
  SenseNames: the row: for every input (of bulk at most 1048576) the law returns true, and each argument reads as it did.
-/
import Derived.Test.YtmhbeopldeccmaaDoorTrW
import Derived.Test.YtmhbeopldeccmaaDoorTrP
import Derived.Test.YtmhbeopldeccmaaDoorTuO
import Derived.Test.YtmhbeopldeccmaaDoorTie
import Derived.Test.YtmhbeopldeccmaaDoorCards
import Derived.ProofKit
import Derived.OpenShut
import Derived.LaidMore
import Derived.Lay
import Derived.SevenTiedAt
import Derived.Stop.Joined
import Derived.Stop.LaidErr
import Derived.Deep.DeepHandedRow
namespace Go.Proofs.YtmhbeopldeccmaaDoor.senseNames
open Go.ChangeShapes Go.WideShapes Go.ChangeAt Go.RowKit
open Go.AM Go.Proofs.YtmhbeopldeccmaaDoor.Up
open Go.Proofs.YtmhbeopldeccmaaDoor.Rows (uptoBulk uptoBulkAll uptoSmall laid_internal_strconv_uint64pow10)
set_option maxRecDepth 20000
theorem P7 {P:Program}{n:String}{r:List (String×DataW Unit)}{W:World}{g:Nat}{ta te:TypeId}(h:laidMet P ((n,laid_internal_strconv_uint64pow10)::r) W) (hg:P.globalNamed n=some g) (ht:(P.globals[g]?).map (·.type)=some ta) (ha:P.underlying ta=some (.array 20 te)) (he:P.underlying te=some (.int .u64)) (hce:P.cellsOf te=1) (hca:P.cellsOf ta=20):
  g<W.heap.size∧¬(fun _:Nat=>False) g∧∃cs e f,W.heap[g]?=some (.cells cs e f)∧A3 cs:=by
 obtain⟨ps,⟨g0,t0,cs0,f0,p0,q0,hg0,ht0,hv0,hd0,_,e0⟩,_,hrows⟩:=h
 obtain rfl:=dx (hg.symm.trans hg0)
 obtain rfl:=dx (ht.symm.trans ht0)
 have hcs:A3 cs0:=by
  obtain⟨xs,m,_,hx,hl,hxl,hi⟩:=DataW.trod_array ha hd0
  have hxs:xs.map (·.1)=(List.range 20).map fun i=>(DataW.lit (.int .u64 ((10^i:Nat):Int)):DataW Unit):=by
   have h1:=congrArg Prod.fst hx
   exact(DataW.agg.inj h1).symm
  unfold A3
  apply Array.ext'
  apply jT
  intro i
  rw[hca] at hl
  by_cases h20:i<20
  ·have h1:=hi i h20
   rw[hce,nI] at h1
   have hlt:i<cs0.toList.length:=by omega
   have e:(cs0.toList.drop i).take 1=[cs0.toList[i]]:=by rw[b9 hlt];rfl
   rw[e,ao (by omega)] at h1
   obtain⟨k,h2,h3,_⟩:=DataW.trod_int he h1
   have h4:(xs.map (·.1))[i]?=some (.lit (.int .u64 k)):=by rw[ak,ao (by omega),h3];rfl
   rw[hxs,ak,iZ h20] at h4
   have h5:((10^i:Nat):Int)=k:=by
    have:=dx h4
    have:=DataW.lit.inj this
    exact(Lit.int.inj this).2
   rw[ao hlt,ak,iZ h20]
   have h6:=List.cons.inj h2
   rw[h6.1,←h5]
   rfl
  ·rw[mZ (by omega),mZ (by simp;omega)]
 simp only[World.var?,hg,aa] at hv0
 split at hv0
 ·rename_i cs e f hb
  cases hv0
  exact⟨(kJ.1 hb).1,fun h=>h,cs0,e,f,hb,hcs⟩
 ·cases hv0
theorem own:ownKnob Tryd.prog.godebug=none:=by kernel_rfl
theorem laid:laidOutB Tryd.prog=true:=by kernel_rfl
theorem IG:Tryd.prog.readableRec 22=true∧22<Tryd.prog.types.size:=⟨by kernel_rfl,of_decide_eq_true (by kernel_rfl)⟩
theorem Qw {W:World}(h:laidMetH Tryd.prog Rows.senseNamesUptoRow.laid W):CU (fun _=>False) W.heap.size W:=by
 rw[MakeChecks.laidMetH_plain _ _ _ (by kernel_rfl)] at h
 have g0:=P7 (laidMet.tail (laidMet.tail h)) (show Tryd.prog.globalNamed _=some 0 by kernel_rfl) (show(Tryd.prog.globals[0]?).map (·.type)=some 117 by kernel_rfl) Tryd.underlying117 Tryd.underlying110 (by kernel_rfl) (by kernel_rfl)
 exact af.2 ⟨g0,fun _ h=>by cases h⟩
theorem dM (H:Type) (ft:TypeId×Value→H) (W:World) (base:Nat) (args:Array Value) (ds gs:List (DataW H)) (before:List MemPlace)
  (hval:∀(j:Nat) t v,Tryd.f3.params[j]?=some t→args[j]?=some v→Value.okWide Tryd.prog W .any base t v)
  (hW:DataW.Whole ft Tryd.prog Tryd.f3.params.toList Rows.senseNamesSpec.vars false W args.toList ds gs before) (hk:Rows.uptoSmall H (ds++gs)=true) (hL:laidMetH Tryd.prog Rows.senseNamesUptoRow.laid W):
  Calls Tryd.prog 3 args W fun e W'=>∃v,e=.returned v∧Rows.senseNamesSpec.post ft Tryd.prog Tryd.f3 false true false false W args v W':=by
 have hW':=hW
 obtain⟨p,q,hA0,hV,rfl,hfz,cZ⟩:=hW
 have hA:DataW.TrodAll ft Tryd.prog W 0 (fun _=>true) true Tryd.f3.params.toList args.toList ds p:=hA0
 rw[Tryd.params3] at hA hval
 obtain⟨v0,vs0,d0,ds0,p0,q0,hargs,rfl,rfl,h0,r0⟩:=trodAll_cons hA
 obtain⟨rfl,rfl,rfl⟩:=trodAll_nil r0
 obtain rfl:args=#[v0]:=by cases args;simp_all
 have hk2:=of_decide_eq_true hk
 obtain⟨x0,k0,w0,a0⟩:=NR (Pr.O0 1048576) (by rw[Tryd.underlying22];intro _ h;cases h) (by rw[Tryd.underlying22];intro _ _ h;cases h) (hval 0 22 v0 rfl rfl) h0 (cR (wS (by simp)) hk2)
 obtain⟨fu,hfu⟩:=Go.DN.D1 k0 w0
 have hg:=Go.DN.bf.law (Go.DN.sc fu) (q:=x0) (r:=true) (gs:=[.sl (List.length x0) (ed x0)]) hfu (by kernel_rfl) (by kernel_rfl) (by kernel_rfl) (by kernel_rfl)
 refine(hg.calls W [v0] rfl (fun j g v hg hv=>?_) (Qw hL)).mono fun e W' ⟨he,hS⟩=>?_
 ·match j,hg,hv with
  | 0,hg,hv=>cases hg;cases hv;exact a0 _ rfl
  | j+1,hg,hv=>simp at hg
 ·subst he
  exact⟨_,rfl,MA rfl (by kernel_rfl) Tryd.underlying4 laid (by rw[Tryd.params3];exact af.2 ⟨IG,fun _ h=>by cases h⟩) hW' hS (fun h=>by subst h;rfl)⟩
set_option maxRecDepth 100000 in
theorem lifted (os:Os) (started:os.Started) (H:Type) (ft:TypeId×Value→H) (F:Stop.Interp):
  ReturnsInHanded {} Tryd.checked os 3 .any ((Rows.OpenSpec.upto Rows.senseNamesSpec).preRow ft Tryd.prog Tryd.f3 Rows.senseNamesUptoRow.domain false Rows.senseNamesUptoRow.laid)
   (((Rows.OpenSpec.upto Rows.senseNamesSpec).at F).post ft Tryd.prog Tryd.f3 false true false false):=by
 refine returnsInHanded_of_row (C:=Tryd.checked) (s:=Rows.OpenSpec.upto Rows.senseNamesSpec) own started (by kernel_rfl) Tryd.func3 ?_ ?_
 ·refine⟨World.laidAll Tryd.prog os Rows.senseNamesUptoRow.laid,fun _ _=>0,⟨#[],#[.slice none 0 0],[]⟩,World.laidAll_os _ _ _,World.shaped_of_ZipB (by kernel_rfl) (by kernel_rfl),rfl,(Input.okWide_of_okWideB (by kernel_rfl)).2,?_,?_⟩
  ·refine OpenSpec.preRow_of_cond (x:=([.nil],[],[])) 8 (by kernel_rfl) (by kernel_rfl) (fun k hk=>by cases hk;kernel_rfl) (by kernel_rfl) ?_
   rw[MakeChecks.laidMetH_plain _ _ _ (by kernel_rfl)]
   exact laidMet_laidAll _ (by kernel_rfl) (by kernel_rfl)
  ·simp only[Assume.holds]
   exact⟨by simp,by simp,fun _=>Modest.zero,by simp,by simp⟩
 ·intro W base args ds gs before hval hW _ hk _ hL _ _
  exact dM H ft W base args ds gs before hval hW (hk _ rfl) hL
theorem row:Rows.SenseNamesUptoSaid:=
 OpenClaim.holds_of_cond 3 Tryd.f3 rfl rfl rfl rfl rfl rfl rfl ⟨rfl,rfl,rfl,rfl,rfl⟩ rfl rfl rfl rfl rfl (by kernel_rfl) Tryd.func3 (by kernel_rfl)
  (of_decide_eq_true (by kernel_rfl)) (by unfold Func.isWrapper;first | (rw[if_pos (by decide +kernel)];kernel_rfl) | (rw[if_neg (by decide +kernel)];exact⟨rfl,rfl⟩))
  (fun os started H ft _ F=>lifted os started H ft F)
theorem proved:Rows.SenseNamesUptoCardSaid:=
 Claim7.holds_tied_plain_at .later [] [.data, .data, .data] true (true, "d464d8428969bf15098587f1a8489f2f1b6eaed3ecb68d1d05fd3985552fd321") true row (fun _ h => by cases h) (by kernel_rfl) (fun _ h => by cases h) senseNamesUpto_row_tie rfl ⟨rfl, rfl⟩ (by kernel_rfl) rfl
  (fun f fn hf hfn=>by
   obtain rfl : f = 3 := dx ((show Tryd.prog.funcNamed "adjoint/adjointlaw4.SenseNames" = some 3 by kernel_rfl).symm.trans hf) |>.symm
   obtain rfl:fn=Tryd.f3:=(dx (Tryd.func3.symm.trans hfn)).symm
   exact⟨by kernel_rfl,fun j t ht=>by
    rw[Tryd.params3] at ht
    have hm:t∈[22]:=by simpa using Array.mem_of_getElem? ht
    have hall:([22].all fun u=>!Tryd.prog.wantsStandIn u)=true:=by kernel_rfl
    exact(show Tryd.prog.wantsStandIn t=false by simpa using cu.1 hall t hm)⟩)
  (by kernel_rfl)
end Go.Proofs.YtmhbeopldeccmaaDoor.senseNames
