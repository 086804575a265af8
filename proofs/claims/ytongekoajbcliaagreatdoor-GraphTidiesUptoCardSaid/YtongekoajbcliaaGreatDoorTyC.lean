/-
  GraphTidies: the row: for every input (of bulk at most 1048576) the law returns true, and each argument reads as it did.
-/
import Derived.Test.YtongekoajbcliaaGreatDoorAnW
import Derived.Test.YtongekoajbcliaaGreatDoorTyP
import Derived.Test.YtongekoajbcliaaGreatDoorMgE
import Derived.Test.YtongekoajbcliaaGreatDoorTie
import Derived.Test.YtongekoajbcliaaGreatDoorCards
import Derived.ProofKit
import Derived.OpenShut
import Derived.LaidMore
import Derived.Lay
import Derived.SevenTiedAt
import Derived.Stop.Joined
import Derived.Stop.LaidErr
import Derived.Deep.DeepHandedRow
namespace Go.Proofs.YtongekoajbcliaaGreatDoor.graphTidies
open Go.ChangeShapes Go.WideShapes Go.ChangeAt Go.RowKit
open Go.AM Go.Proofs.YtongekoajbcliaaGreatDoor.Up
open Go.Proofs.YtongekoajbcliaaGreatDoor.Rows (uptoBulk uptoBulkAll uptoSmall laid_internal_strconv_uint64pow10)
set_option maxRecDepth 20000
theorem Yh {P:Program}{n:String}{r:List (String×DataW Unit)}{W:World}{g:Nat}{ta te:TypeId}(h:laidMet P ((n,laid_internal_strconv_uint64pow10)::r) W) (hg:P.globalNamed n=some g) (ht:(P.globals[g]?).map (·.type)=some ta) (ha:P.underlying ta=some (.array 20 te)) (he:P.underlying te=some (.int .u64)) (hce:P.cellsOf te=1) (hca:P.cellsOf ta=20):
  g<W.heap.size∧¬(fun _:Nat=>False) g∧∃cs e f,W.heap[g]?=some (.cells cs e f)∧Gq cs:=by
 obtain⟨ps,⟨g0,t0,cs0,f0,p0,q0,hg0,ht0,hv0,hd0,_,e0⟩,_,hrows⟩:=h
 obtain rfl:=dV (hg.symm.trans hg0)
 obtain rfl:=dV (ht.symm.trans ht0)
 have hcs:Gq cs0:=by
  obtain⟨xs,m,_,hx,hl,hxl,hi⟩:=DataW.trod_array ha hd0
  have hxs:xs.map (·.1)=(List.range 20).map fun i=>(DataW.lit (.int .u64 ((10^i:Nat):Int)):DataW Unit):=by
   have h1:=congrArg Prod.fst hx
   exact(DataW.agg.inj h1).symm
  unfold Gq
  apply Array.ext'
  apply du
  intro i
  rw[hca] at hl
  by_cases h20:i<20
  ·have h1:=hi i h20
   rw[hce,pg] at h1
   have hlt:i<cs0.toList.length:=by omega
   have e:(cs0.toList.drop i).take 1=[cs0.toList[i]]:=by rw[cM hlt];rfl
   rw[e,ag (by omega)] at h1
   obtain⟨k,h2,h3,_⟩:=DataW.trod_int he h1
   have h4:(xs.map (·.1))[i]?=some (.lit (.int .u64 k)):=by rw[ak,ag (by omega),h3];rfl
   rw[hxs,ak,dr h20] at h4
   have h5:((10^i:Nat):Int)=k:=by
    have:=dV h4
    have:=DataW.lit.inj this
    exact(Lit.int.inj this).2
   rw[ag hlt,ak,dr h20]
   have h6:=lh h2
   rw[h6.1,←h5]
   rfl
  ·rw[bV (by omega),bV (by simp;omega)]
 simp only[World.var?,hg,aa] at hv0
 split at hv0
 ·rename_i cs e f hb
  cases hv0
  exact⟨(gX.1 hb).1,fun h=>h,cs0,e,f,hb,hcs⟩
 ·cases hv0
theorem wD:Tryz.prog.cellsOf 3=1:=by kernel_rfl
theorem W6:dS Tryz.prog 52 Go.DN.cy Go.DN.Wa:=fun gB W base sp held bG cs x h hu=>by
 obtain⟨xs,n,_,rfl,hl,hlen,hf⟩:=DataW.trod_struct Tryz.underlying52 h
 have hub:uptoBulkAll (xs.map (·.1))≤1048576:=by have:=hu;simp only[uptoBulk] at this;omega
 obtain⟨a0,o0,r0⟩:=dS.field hlen hf 0 rfl (dS.of (ou.int Tryz.underlying3)) hub
 obtain⟨a1,o1,r1⟩:=dS.field hlen hf 1 rfl (dS.slice Tryz.underlying23 wD (dS.of (ou.int Tryz.underlying3))) hub
 obtain⟨a2,o2,r2⟩:=dS.field hlen hf 2 rfl (dS.slice Tryz.underlying23 wD (dS.of (ou.int Tryz.underlying3))) hub
 obtain⟨a3,o3,r3⟩:=dS.field hlen hf 3 rfl (dS.slice Tryz.underlying23 wD (dS.of (ou.int Tryz.underlying3))) hub
 obtain⟨a4,o4,r4⟩:=dS.field hlen hf 4 rfl (dS.slice Tryz.underlying23 wD (dS.of (ou.int Tryz.underlying3))) hub
 obtain⟨a5,o5,r5⟩:=dS.field hlen hf 5 rfl (dS.slice Tryz.underlying23 wD (dS.of (ou.int Tryz.underlying3))) hub
 obtain⟨a6,o6,r6⟩:=dS.field hlen hf 6 rfl (dS.of (ou.int Tryz.underlying2)) hub
 exact⟨⟨a0,a1,a2,a3,a4,a5,a6⟩,⟨o0,o1,o2,o3,o4,o5,o6⟩,(r0.append rfl (r1.append rfl (r2.append rfl (r3.append rfl (r4.append rfl (r5.append rfl r6)))))).all (hl.trans (show Tryz.prog.cellsOf 52=7 by kernel_rfl))⟩
theorem W5:dS Tryz.prog 54 Go.DN.aq Go.DN.Ou:=fun gB W base sp held bG cs x h hu=>by
 obtain⟨xs,n,_,rfl,hl,hlen,hf⟩:=DataW.trod_struct Tryz.underlying54 h
 have hub:uptoBulkAll (xs.map (·.1))≤1048576:=by have:=hu;simp only[uptoBulk] at this;omega
 obtain⟨a0,o0,r0⟩:=dS.field hlen hf 0 rfl W6 hub
 obtain⟨a1,o1,r1⟩:=dS.field hlen hf 1 rfl (dS.slice Tryz.underlying23 wD (dS.of (ou.int Tryz.underlying3))) hub
 exact⟨⟨a0,a1⟩,⟨o0,o1⟩,(r0.append rfl r1).all (hl.trans (show Tryz.prog.cellsOf 54=8 by kernel_rfl))⟩
theorem XI:Tryz.prog.cellsOf 54=8:=by kernel_rfl
theorem W7:dS Tryz.prog 25 Go.DN.cL Go.DN.EA:=fun gB W base sp held bG cs x h hu=>by
 obtain⟨xs,n,_,rfl,hl,hlen,hf⟩:=DataW.trod_struct Tryz.underlying25 h
 have hub:uptoBulkAll (xs.map (·.1))≤1048576:=by have:=hu;simp only[uptoBulk] at this;omega
 obtain⟨a0,o0,r0⟩:=dS.field hlen hf 0 rfl (dS.slice Tryz.underlying22 XI W5) hub
 obtain⟨a1,o1,r1⟩:=dS.field hlen hf 1 rfl (dS.slice Tryz.underlying23 wD (dS.of (ou.int Tryz.underlying3))) hub
 exact⟨⟨a0,a1⟩,⟨o0,o1⟩,(r0.append rfl r1).all (hl.trans (show Tryz.prog.cellsOf 25=2 by kernel_rfl))⟩
theorem own:ownKnob Tryz.prog.godebug=none:=by kernel_rfl
theorem laid:laidOutB Tryz.prog=true:=by kernel_rfl
theorem PU:Tryz.prog.readableRec 25=true∧25 < Tryz.prog.types.size:=⟨by kernel_rfl,of_decide_eq_true (by kernel_rfl)⟩
theorem YK {W:World}(h:laidMetH Tryz.prog Rows.graphTidiesUptoRow.laid W):IZ (fun _=>False) W.heap.size W:=by
 rw[MakeChecks.laidMetH_plain _ _ _ (by kernel_rfl)] at h
 have g0:=Yh (laidMet.tail (laidMet.tail h)) (show Tryz.prog.globalNamed _=some 0 by kernel_rfl) (show(Tryz.prog.globals[0]?).map (·.type)=some 279 by kernel_rfl) Tryz.underlying279 Tryz.underlying265 (by kernel_rfl) (by kernel_rfl)
 exact db.2 ⟨g0,fun _ h=>by cases h⟩
theorem eV (H:Type) (gB:TypeId×Value→H) (W:World) (base:Nat) (args:Array Value) (ds gs:List (DataW H)) (before:List MemPlace)
  (hval:∀(j:Nat) t v,Tryz.f3.params[j]?=some t→args[j]?=some v→Value.okWide Tryz.prog W .any base t v)
  (hW:DataW.Whole gB Tryz.prog Tryz.f3.params.toList Rows.graphTidiesSpec.vars false W args.toList ds gs before) (hk:Rows.uptoSmall H (ds++gs)=true) (hL:laidMetH Tryz.prog Rows.graphTidiesUptoRow.laid W):
  Calls Tryz.prog 3 args W fun e W'=>∃v,e=.returned v∧Rows.graphTidiesSpec.post gB Tryz.prog Tryz.f3 false true false false W args v W':=by
 have hW':=hW
 obtain⟨p,q,hA0,hV,rfl,hfz,di⟩:=hW
 have hA:DataW.TrodAll gB Tryz.prog W 0 (fun _=>true) true Tryz.f3.params.toList args.toList ds p:=hA0
 rw[Tryz.params3] at hA hval
 obtain⟨v0,vs0,d0,ds0,p0,q0,hargs,rfl,rfl,h0,r0⟩:=trodAll_cons hA
 obtain⟨rfl,rfl,rfl⟩:=trodAll_nil r0
 obtain rfl:args=#[v0]:=by cases args;simp_all
 have hk2:=of_decide_eq_true hk
 obtain⟨x0,k0,a0⟩:=VX W7 Tryz.underlying25 (hval 0 25 v0 rfl rfl) h0 (cK (AR (by simp)) hk2)
 obtain⟨fu,hfu⟩:=Go.DN.H9 x0 k0
 have hg:=Go.DN.aM.law (Go.DN.tF fu) (q:=x0) (r:=true) (gs:=[.agg (aH.cells x0)]) hfu (by kernel_rfl) (by kernel_rfl) (by kernel_rfl) (by kernel_rfl)
 refine(hg.calls W [v0] rfl (fun j g v hg hv=>?_) (YK hL)).mono fun e W' ⟨he,hS⟩=>?_
 ·match j,hg,hv with
  | 0,hg,hv=>cases hg;cases hv;exact a0
  | j+1,hg,hv=>simp at hg
 ·subst he
  exact⟨_,rfl,Ul rfl (by kernel_rfl) Tryz.underlying4 laid (by rw[Tryz.params3];exact db.2 ⟨PU,fun _ h=>by cases h⟩) hW' hS (fun h=>by subst h;rfl)⟩
set_option maxRecDepth 100000 in
theorem lifted (os:Os) (started:os.Started) (H:Type) (gB:TypeId×Value→H) (F:Stop.Interp):
  ReturnsInHanded {} Tryz.checked os 3 .any ((Rows.OpenSpec.upto Rows.graphTidiesSpec).preRow gB Tryz.prog Tryz.f3 Rows.graphTidiesUptoRow.domain false Rows.graphTidiesUptoRow.laid)
   (((Rows.OpenSpec.upto Rows.graphTidiesSpec).at F).post gB Tryz.prog Tryz.f3 false true false false):=by
 refine returnsInHanded_of_row (C:=Tryz.checked) (s:=Rows.OpenSpec.upto Rows.graphTidiesSpec) own started (by kernel_rfl) Tryz.func3 ?_ ?_
 ·refine⟨World.laidAll Tryz.prog os Rows.graphTidiesUptoRow.laid,fun _ _=>0,⟨#[],#[.agg #[.slice none 0 0,.slice none 0 0]],[]⟩,World.laidAll_os _ _ _,World.shaped_of_ZipB (by kernel_rfl) (by kernel_rfl),rfl,(Input.okWide_of_okWideB (by kernel_rfl)).2,?_,?_⟩
  ·refine OpenSpec.preRow_of_cond (x:=([.agg [.nil,.nil]],[],[])) 8 (by kernel_rfl) (by kernel_rfl) (fun k hk=>by cases hk;kernel_rfl) (by kernel_rfl) ?_
   rw[MakeChecks.laidMetH_plain _ _ _ (by kernel_rfl)]
   exact laidMet_laidAll _ (by kernel_rfl) (by kernel_rfl)
  ·simp only[Assume.holds]
   exact⟨by simp,by simp,fun _=>Modest.zero,by simp,by simp⟩
 ·intro W base args ds gs before hval hW _ hk _ hL _ _
  exact eV H gB W base args ds gs before hval hW (hk _ rfl) hL
theorem row:Rows.GraphTidiesUptoSaid:=
 OpenClaim.holds_of_cond 3 Tryz.f3 rfl rfl rfl rfl rfl rfl rfl ⟨rfl,rfl,rfl,rfl,rfl⟩ rfl rfl rfl rfl rfl (by kernel_rfl) Tryz.func3 (by kernel_rfl)
  (of_decide_eq_true (by kernel_rfl)) (by unfold Func.isWrapper;first | (rw[if_pos (by decide +kernel)];kernel_rfl) | (rw[if_neg (by decide +kernel)];exact⟨rfl,rfl⟩))
  (fun os started H gB _ F=>lifted os started H gB F)
theorem proved:Rows.GraphTidiesUptoCardSaid:=
 Claim7.holds_tied_plain_at .later [] [.data, .data, .data] true (true, "97936f25f159374cfeb7d753f84985050d1e678dd71610f60beac32168145f40") true row (fun _ h => by cases h) (by kernel_rfl) (fun _ h => by cases h) graphTidiesUpto_row_tie rfl ⟨rfl, rfl⟩ (by kernel_rfl) rfl
  (fun f fn hf hfn=>by
   obtain rfl : f = 3 := dV ((show Tryz.prog.funcNamed "adjoint/adjointlaw5.GraphTidies" = some 3 by kernel_rfl).symm.trans hf) |>.symm
   obtain rfl:fn=Tryz.f3:=(dV (Tryz.func3.symm.trans hfn)).symm
   exact⟨by kernel_rfl,fun j t ht=>by
    rw[Tryz.params3] at ht
    have hm:t∈[25]:=by simpa using Array.mem_of_getElem? ht
    have hall:([25].all fun u=>!Tryz.prog.wantsStandIn u)=true:=by kernel_rfl
    exact(show Tryz.prog.wantsStandIn t=false by simpa using dB.1 hall t hm)⟩)
  (by kernel_rfl)
end Go.Proofs.YtongekoajbcliaaGreatDoor.graphTidies
