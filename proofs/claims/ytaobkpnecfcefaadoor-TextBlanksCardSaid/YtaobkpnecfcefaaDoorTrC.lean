/-
  TextBlanks: the row: for every input the law returns true, and each argument reads as it did.
-/
import Derived.Test.YtaobkpnecfcefaaDoorTrW
import Derived.Test.YtaobkpnecfcefaaDoorTrP
import Derived.Test.YtaobkpnecfcefaaDoorMgE
import Derived.Test.YtaobkpnecfcefaaDoorTie
import Derived.Test.YtaobkpnecfcefaaDoorCards
import Derived.ProofKit
import Derived.OpenShut
import Derived.LaidMore
import Derived.Lay
import Derived.SevenTiedAt
import Derived.Stop.Joined
import Derived.Stop.LaidErr
namespace Go.Proofs.YtaobkpnecfcefaaDoor.textBlanks
open Go.ChangeShapes Go.WideShapes Go.ChangeAt Go.RowKit
open Go.AM
set_option maxRecDepth 20000
theorem iface_at {P:Program}{n nm:String}{d:DataW Unit}{r:List (String×DataW Unit)}{W:World}{g:Nat}{ti:TypeId}{ms:Array (String×TypeId)}(h:laidMet P ((n,.iface nm d)::r) W) (hg:P.globalNamed n=some g) (ht:(P.globals[g]?).map (·.type)=some ti) (hi:P.underlying ti=some (.interface ms)):
  g<W.heap.size∧¬(fun _:Nat=>False) g∧∃cs e f,W.heap[g]?=some (.cells cs e f)∧isErr cs:=by
 obtain⟨ps,⟨g0,t0,cs0,f0,p0,q0,hg0,ht0,hv0,hd0,_,e0⟩,_,hrows⟩:=h
 obtain rfl:=Option.some.inj (hg.symm.trans hg0)
 obtain rfl:=Option.some.inj (ht.symm.trans ht0)
 obtain⟨te,pe,hcs⟩:∃te pe,cs0.toList=[.iface te pe]:=by
  obtain⟨_,u,v,hc,_⟩:=iface_of_trod hi hd0
  exact⟨u,v,hc⟩
 simp only[World.var?,hg,Option.bind_some] at hv0
 split at hv0
 ·rename_i cs e f hb
  cases hv0
  refine⟨(Array.getElem?_eq_some_iff.1 hb).1,fun h=>h,cs0,e,f,hb,te,pe,?_⟩
  have h0:cs0.toList[0]?=some (.iface te pe):=by rw[hcs];rfl
  simpa using h0
 ·cases hv0
theorem own:ownKnob Tryd.prog.godebug=none:=by kernel_rfl
theorem laid:laidOutB Tryd.prog=true:=by kernel_rfl
theorem cells9:Tryd.prog.cellsOf 9=1:=by kernel_rfl
theorem readable9:Tryd.prog.readableRec 9=true∧9<Tryd.prog.types.size:=⟨by kernel_rfl,of_decide_eq_true (by kernel_rfl)⟩
theorem readable37:Tryd.prog.readableRec 37=true∧37<Tryd.prog.types.size:=⟨by kernel_rfl,of_decide_eq_true (by kernel_rfl)⟩
theorem globOk {W:World}(h:laidMetH Tryd.prog Rows.textBlanksRow.laid W):GlOk (fun _=>False) W.heap.size W:=by
 rw[MakeChecks.laidMetH_plain _ _ _ (by kernel_rfl)] at h
 have g0 := iface_at (laidMet.tail (laidMet.tail (laidMet.tail h))) (show Tryd.prog.globalNamed "strconv.ErrRange" = some 1 by kernel_rfl) (show (Tryd.prog.globals[1]?).map (·.type) = some 97 by kernel_rfl) Tryd.underlying97
 exact List.forall_mem_cons.2 ⟨g0,fun _ h=>by cases h⟩
theorem contract (H:Type) (enc:TypeId×Value→H) (W:World) (base:Nat) (args:Array Value) (ds gs:List (DataW H)) (before:List MemPlace)
  (hval:∀(j:Nat) t v,Tryd.f6.params[j]?=some t→args[j]?=some v→Value.okWide Tryd.prog W .any base t v)
  (hW:DataW.Whole enc Tryd.prog Tryd.f6.params.toList Rows.textBlanksSpec.vars false W args.toList ds gs before) (hL:laidMetH Tryd.prog Rows.textBlanksRow.laid W):
  Calls Tryd.prog 6 args W fun e W'=>∃v,e=.returned v∧Rows.textBlanksSpec.post enc Tryd.prog Tryd.f6 false true false false W args v W':=by
 have hW':=hW
 obtain⟨p,q,hA0,hV,rfl,hfz,hnd⟩:=hW
 have hA:DataW.TrodAll enc Tryd.prog W 0 (fun _=>true) true Tryd.f6.params.toList args.toList ds p:=hA0
 rw[Tryd.params6] at hA hval
 obtain⟨v0,vs0,d0,ds0,p0,q0,hargs,rfl,rfl,h0,r0⟩:=trodAll_cons hA
 obtain⟨v1,vs1,d1,ds1,p1,q1,rfl,rfl,rfl,h1,r1⟩:=trodAll_cons r0
 obtain⟨rfl,rfl,rfl⟩:=trodAll_nil r1
 obtain rfl:args=#[v0,v1]:=by cases args;simp_all
 obtain⟨x0,k0,a0⟩:=arg_one (Opens.string Tryd.underlying9) (by rw[Tryd.underlying9];intro _ h;cases h) (by rw[Tryd.underlying9];intro _ _ h;cases h) (hval 0 9 v0 rfl rfl) h0
 obtain⟨x1,k1,a1⟩:=arg_one (Opens.slice Tryd.underlying37 cells9 (Opens.string Tryd.underlying9)) (by rw[Tryd.underlying37];intro _ h;cases h) (by rw[Tryd.underlying37];intro _ _ h;cases h) (hval 1 37 v1 rfl rfl) h1
 obtain⟨fu,hfu⟩:=Go.DN.textBlanksLaw x0 x1 k0 k1
 have hg:=Go.DN.ConOk.law (Go.DN.c_adjointlaw3_TextBlanks_ok fu) (q:=(x0,x1)) (r:=true) (gs:=[.val (.string x0),.sl (List.length x1) (encs x1)]) hfu (by kernel_rfl) (by kernel_rfl) (by kernel_rfl) (by kernel_rfl)
 refine(hg.calls W [v0,v1] rfl (fun j g v hg hv=>?_) (globOk hL)).mono fun e W' ⟨he,hS⟩=>?_
 ·match j,hg,hv with
  | 0,hg,hv=>cases hg;cases hv;exact a0 _ rfl
  | 1,hg,hv=>cases hg;cases hv;exact a1 _ rfl
  | j+2,hg,hv=>simp at hg
 ·subst he
  exact⟨_,rfl,post_law rfl (by kernel_rfl) Tryd.underlying4 laid (by rw[Tryd.params6];exact List.forall_mem_cons.2 ⟨readable9,List.forall_mem_cons.2 ⟨readable37,fun _ h=>by cases h⟩⟩) hW' hS (fun h=>by subst h;rfl)⟩
set_option maxRecDepth 100000 in
theorem lifted (os:Os) (started:os.Started) (H:Type) (enc:TypeId×Value→H):
  ReturnsInHanded {} Tryd.checked os 6 .any (fun w args=>(Rows.textBlanksSpec.pre enc Tryd.prog Tryd.f6 Rows.textBlanksRow.domain false w args∧laidMetH Tryd.prog Rows.textBlanksRow.laid w)∧sizedMet enc Tryd.prog Tryd.f6 (OpenSpec.ofChange Rows.textBlanksSpec) false w args)
   (Rows.textBlanksSpec.post enc Tryd.prog Tryd.f6 false true false false):=by
 refine returnsInHanded_of_change_and (C:=Tryd.checked) (X:=fun w _=>laidMetH Tryd.prog Rows.textBlanksRow.laid w) (fun _ _ _ hh h=>h.of_heap hh) own started (by kernel_rfl) Tryd.func6
  (ChangeSpec.witness_shaped (enc:=enc) (C:=Tryd.checked) (os:=os) (X:=fun w _=>laidMetH Tryd.prog Rows.textBlanksRow.laid w) false (World.laidAll Tryd.prog os Rows.textBlanksRow.laid) #[.string .empty,.slice none 0 0] 8 (World.laidAll_os _ _ _)
   (World.shaped_of_ZipB (by kernel_rfl) (by kernel_rfl)) (by kernel_rfl) (by kernel_rfl) (by kernel_rfl)
   (by rw[MakeChecks.laidMetH_plain _ _ _ (by kernel_rfl)];exact laidMet_laidAll _ (by kernel_rfl) (by kernel_rfl))) ?_
 intro W base args ds gs before hval hW _ _ hL _
 exact contract H enc W base args ds gs before hval hW hL
theorem row:Rows.TextBlanksSaid:=
 OpenClaim.holds_of_wide 6 Tryd.f6 rfl rfl rfl rfl rfl rfl rfl ⟨rfl,rfl,rfl,rfl,rfl⟩ rfl rfl rfl rfl rfl (by kernel_rfl) Tryd.func6 (by kernel_rfl)
  (of_decide_eq_true (by kernel_rfl)) (by unfold Func.isWrapper;first | (rw[if_pos (by decide +kernel)];kernel_rfl) | (rw[if_neg (by decide +kernel)];exact⟨rfl,rfl⟩))
  (fun os started H enc _=>lifted os started H enc)
theorem proved:Rows.TextBlanksCardSaid:=
 Claim7.holds_tied_plain_at .later [] [.data, .data, .data, .sentinel, .sentinel] true (true, "5e061583569be7809e3db90f375dd44e1c37794afe11e88bb40c2c8d2e838cd6") true row (fun _ h => by cases h) (by kernel_rfl) (fun _ h => by cases h) textBlanks_row_tie rfl ⟨rfl, rfl⟩ (by kernel_rfl) rfl
  (fun f fn hf hfn=>by
   obtain rfl : f = 6 := Option.some.inj ((show Tryd.prog.funcNamed "adjoint/adjointlaw3.TextBlanks" = some 6 by kernel_rfl).symm.trans hf) |>.symm
   obtain rfl:fn=Tryd.f6:=(Option.some.inj (Tryd.func6.symm.trans hfn)).symm
   exact⟨by kernel_rfl,fun j t ht=>by
    rw[Tryd.params6] at ht
    have hm:t∈[9,37]:=by simpa using Array.mem_of_getElem? ht
    have hall:([9,37].all fun u=>!Tryd.prog.wantsStandIn u)=true:=by kernel_rfl
    exact(show Tryd.prog.wantsStandIn t=false by simpa using List.all_eq_true.1 hall t hm)⟩)
  (by kernel_rfl)
end Go.Proofs.YtaobkpnecfcefaaDoor.textBlanks
