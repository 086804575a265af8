/-
  TextPrints: the row: for every input (of bulk at most 1048576) the law returns true, and each argument reads as it did.
-/
import Derived.Test.YtaobkpnecfcefaaDoorTrW
import Derived.Test.YtaobkpnecfcefaaDoorTrP
import Derived.Test.YtaobkpnecfcefaaDoorTuO
import Derived.Test.YtaobkpnecfcefaaDoorTie
import Derived.Test.YtaobkpnecfcefaaDoorCards
import Derived.ProofKit
import Derived.OpenShut
import Derived.LaidMore
import Derived.Lay
import Derived.SevenTiedAt
import Derived.Stop.Joined
import Derived.Stop.LaidErr
import Derived.Deep.DeepHandedRow
namespace Go.Proofs.YtaobkpnecfcefaaDoor.textPrints
open Go.ChangeShapes Go.WideShapes Go.ChangeAt Go.RowKit
open Go.AM Go.Proofs.YtaobkpnecfcefaaDoor.Up
open Go.Proofs.YtaobkpnecfcefaaDoor.Rows (uptoBulk uptoBulkAll uptoSmall laid_internal_strconv_uint64pow10)
set_option maxRecDepth 20000
theorem pow_at {P:Program}{n:String}{r:List (String×DataW Unit)}{W:World}{g:Nat}{ta te:TypeId}(h:laidMet P ((n,laid_internal_strconv_uint64pow10)::r) W) (hg:P.globalNamed n=some g) (ht:(P.globals[g]?).map (·.type)=some ta) (ha:P.underlying ta=some (.array 20 te)) (he:P.underlying te=some (.int .u64)) (hce:P.cellsOf te=1) (hca:P.cellsOf ta=20):
  g<W.heap.size∧¬(fun _:Nat=>False) g∧∃cs e f,W.heap[g]?=some (.cells cs e f)∧isPow cs:=by
 obtain⟨ps,⟨g0,t0,cs0,f0,p0,q0,hg0,ht0,hv0,hd0,_,e0⟩,_,hrows⟩:=h
 obtain rfl:=Option.some.inj (hg.symm.trans hg0)
 obtain rfl:=Option.some.inj (ht.symm.trans ht0)
 have hcs:isPow cs0:=by
  obtain⟨xs,m,_,hx,hl,hxl,hi⟩:=DataW.trod_array ha hd0
  have hxs:xs.map (·.1)=(List.range 20).map fun i=>(DataW.lit (.int .u64 ((10^i:Nat):Int)):DataW Unit):=by
   have h1:=congrArg Prod.fst hx
   exact(DataW.agg.inj h1).symm
  unfold isPow
  apply Array.ext'
  apply List.ext_getElem?
  intro i
  rw[hca] at hl
  by_cases h20:i<20
  ·have h1:=hi i h20
   rw[hce,Nat.mul_one] at h1
   have hlt:i<cs0.toList.length:=by omega
   have e:(cs0.toList.drop i).take 1=[cs0.toList[i]]:=by rw[List.drop_eq_getElem_cons hlt];rfl
   rw[e,List.getElem?_eq_getElem (by omega)] at h1
   obtain⟨k,h2,h3,_⟩:=DataW.trod_int he h1
   have h4:(xs.map (·.1))[i]?=some (.lit (.int .u64 k)):=by rw[List.getElem?_map,List.getElem?_eq_getElem (by omega),h3];rfl
   rw[hxs,List.getElem?_map,List.getElem?_range h20] at h4
   have h5:((10^i:Nat):Int)=k:=by
    have:=Option.some.inj h4
    have:=DataW.lit.inj this
    exact(Lit.int.inj this).2
   rw[List.getElem?_eq_getElem hlt,List.getElem?_map,List.getElem?_range h20]
   have h6:=List.cons.inj h2
   rw[h6.1,←h5]
   rfl
  ·rw[List.getElem?_eq_none (by omega),List.getElem?_eq_none (by simp;omega)]
 simp only[World.var?,hg,Option.bind_some] at hv0
 split at hv0
 ·rename_i cs e f hb
  cases hv0
  exact⟨(Array.getElem?_eq_some_iff.1 hb).1,fun h=>h,cs0,e,f,hb,hcs⟩
 ·cases hv0
theorem own:ownKnob Tryd.prog.godebug=none:=by kernel_rfl
theorem laid:laidOutB Tryd.prog=true:=by kernel_rfl
theorem readable22:Tryd.prog.readableRec 22=true∧22<Tryd.prog.types.size:=⟨by kernel_rfl,of_decide_eq_true (by kernel_rfl)⟩
theorem globOk {W:World}(h:laidMetH Tryd.prog Rows.textPrintsUptoRow.laid W):GlOk (fun _=>False) W.heap.size W:=by
 rw[MakeChecks.laidMetH_plain _ _ _ (by kernel_rfl)] at h
 have g0:=pow_at (laidMet.tail (laidMet.tail h)) (show Tryd.prog.globalNamed _=some 2 by kernel_rfl) (show(Tryd.prog.globals[2]?).map (·.type)=some 154 by kernel_rfl) Tryd.underlying154 Tryd.underlying125 (by kernel_rfl) (by kernel_rfl)
 exact List.forall_mem_cons.2 ⟨g0,fun _ h=>by cases h⟩
theorem contract (H:Type) (enc:TypeId×Value→H) (W:World) (base:Nat) (args:Array Value) (ds gs:List (DataW H)) (before:List MemPlace)
  (hval:∀(j:Nat) t v,Tryd.f3.params[j]?=some t→args[j]?=some v→Value.okWide Tryd.prog W .any base t v)
  (hW:DataW.Whole enc Tryd.prog Tryd.f3.params.toList Rows.textPrintsSpec.vars false W args.toList ds gs before) (hk:Rows.uptoSmall H (ds++gs)=true) (hL:laidMetH Tryd.prog Rows.textPrintsUptoRow.laid W):
  Calls Tryd.prog 3 args W fun e W'=>∃v,e=.returned v∧Rows.textPrintsSpec.post enc Tryd.prog Tryd.f3 false true false false W args v W':=by
 have hW':=hW
 obtain⟨p,q,hA0,hV,rfl,hfz,hnd⟩:=hW
 have hA:DataW.TrodAll enc Tryd.prog W 0 (fun _=>true) true Tryd.f3.params.toList args.toList ds p:=hA0
 rw[Tryd.params3] at hA hval
 obtain⟨v0,vs0,d0,ds0,p0,q0,hargs,rfl,rfl,h0,r0⟩:=trodAll_cons hA
 obtain⟨rfl,rfl,rfl⟩:=trodAll_nil r0
 obtain rfl:args=#[v0]:=by cases args;simp_all
 have hk2:=of_decide_eq_true hk
 obtain⟨x0,k0,w0,a0⟩:=argW_one (Pr.opens22 1048576) (by rw[Tryd.underlying22];intro _ h;cases h) (by rw[Tryd.underlying22];intro _ _ h;cases h) (hval 0 22 v0 rfl rfl) h0 (Nat.le_trans (bulk_mem (by simp)) hk2)
 obtain⟨fu,hfu⟩:=Go.DN.textPrintsLaw k0 w0
 have hg:=Go.DN.ConOk.law (Go.DN.c_adjointlaw3_TextPrints_ok fu) (q:=x0) (r:=true) (gs:=[.sl (List.length x0) (encs x0)]) hfu (by kernel_rfl) (by kernel_rfl) (by kernel_rfl) (by kernel_rfl)
 refine(hg.calls W [v0] rfl (fun j g v hg hv=>?_) (globOk hL)).mono fun e W' ⟨he,hS⟩=>?_
 ·match j,hg,hv with
  | 0,hg,hv=>cases hg;cases hv;exact a0 _ rfl
  | j+1,hg,hv=>simp at hg
 ·subst he
  exact⟨_,rfl,post_law rfl (by kernel_rfl) Tryd.underlying4 laid (by rw[Tryd.params3];exact List.forall_mem_cons.2 ⟨readable22,fun _ h=>by cases h⟩) hW' hS (fun h=>by subst h;rfl)⟩
set_option maxRecDepth 100000 in
theorem lifted (os:Os) (started:os.Started) (H:Type) (enc:TypeId×Value→H) (F:Stop.Interp):
  ReturnsInHanded {} Tryd.checked os 3 .any ((Rows.OpenSpec.upto Rows.textPrintsSpec).preRow enc Tryd.prog Tryd.f3 Rows.textPrintsUptoRow.domain false Rows.textPrintsUptoRow.laid)
   (((Rows.OpenSpec.upto Rows.textPrintsSpec).at F).post enc Tryd.prog Tryd.f3 false true false false):=by
 refine returnsInHanded_of_row (C:=Tryd.checked) (s:=Rows.OpenSpec.upto Rows.textPrintsSpec) own started (by kernel_rfl) Tryd.func3 ?_ ?_
 ·refine⟨World.laidAll Tryd.prog os Rows.textPrintsUptoRow.laid,fun _ _=>0,⟨#[],#[.slice none 0 0],[]⟩,World.laidAll_os _ _ _,World.shaped_of_ZipB (by kernel_rfl) (by kernel_rfl),rfl,(Input.okWide_of_okWideB (by kernel_rfl)).2,?_,?_⟩
  ·refine OpenSpec.preRow_of_cond (x:=([.nil],[],[])) 8 (by kernel_rfl) (by kernel_rfl) (fun k hk=>by cases hk;kernel_rfl) (by kernel_rfl) ?_
   rw[MakeChecks.laidMetH_plain _ _ _ (by kernel_rfl)]
   exact laidMet_laidAll _ (by kernel_rfl) (by kernel_rfl)
  ·simp only[Assume.holds]
   exact⟨by simp,by simp,fun _=>Modest.zero,by simp,by simp⟩
 ·intro W base args ds gs before hval hW _ hk _ hL _ _
  exact contract H enc W base args ds gs before hval hW (hk _ rfl) hL
theorem row:Rows.TextPrintsUptoSaid:=
 OpenClaim.holds_of_cond 3 Tryd.f3 rfl rfl rfl rfl rfl rfl rfl ⟨rfl,rfl,rfl,rfl,rfl⟩ rfl rfl rfl rfl rfl (by kernel_rfl) Tryd.func3 (by kernel_rfl)
  (of_decide_eq_true (by kernel_rfl)) (by unfold Func.isWrapper;first | (rw[if_pos (by decide +kernel)];kernel_rfl) | (rw[if_neg (by decide +kernel)];exact⟨rfl,rfl⟩))
  (fun os started H enc _ F=>lifted os started H enc F)
theorem proved:Rows.TextPrintsUptoCardSaid:=
 Claim7.holds_tied_plain_at .later [] [.data, .data, .data] true (true, "5e061583569be7809e3db90f375dd44e1c37794afe11e88bb40c2c8d2e838cd6") true row (fun _ h => by cases h) (by kernel_rfl) (fun _ h => by cases h) textPrintsUpto_row_tie rfl ⟨rfl, rfl⟩ (by kernel_rfl) rfl
  (fun f fn hf hfn=>by
   obtain rfl : f = 3 := Option.some.inj ((show Tryd.prog.funcNamed "adjoint/adjointlaw3.TextPrints" = some 3 by kernel_rfl).symm.trans hf) |>.symm
   obtain rfl:fn=Tryd.f3:=(Option.some.inj (Tryd.func3.symm.trans hfn)).symm
   exact⟨by kernel_rfl,fun j t ht=>by
    rw[Tryd.params3] at ht
    have hm:t∈[22]:=by simpa using Array.mem_of_getElem? ht
    have hall:([22].all fun u=>!Tryd.prog.wantsStandIn u)=true:=by kernel_rfl
    exact(show Tryd.prog.wantsStandIn t=false by simpa using List.all_eq_true.1 hall t hm)⟩)
  (by kernel_rfl)
end Go.Proofs.YtaobkpnecfcefaaDoor.textPrints
