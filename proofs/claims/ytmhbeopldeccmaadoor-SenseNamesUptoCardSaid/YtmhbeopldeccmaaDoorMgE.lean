/-
  From a dM to what a row asks.
-/
import Derived.Test.YtmhbeopldeccmaaDoorMgB
import Derived.Test.YtmhbeopldeccmaaDoorRows
import Derived.WalkKit
import Derived.ProofKit
import Derived.OpenShut
import Derived.JoinedCond
import Derived.Deep.Slices
import Derived.WideKeyArgs
set_option linter.unusedSectionVars false
set_option linter.unusedSimpArgs false
set_option linter.unusedVariables false
/-
 AM,part Z:from a dM to what a row asks.
-/
namespace Go.AM
structure u6 (W W':World):Prop where
 os:W'.os=W.os
 output:W'.output=W.output
 size:W.heap.size≤W'.heap.size
 heap:∀b,b<W.heap.size→W'.heap[b]?=W.heap[b]?
theorem u6.frame {W W':World}(h:u6 W W') (may:MemPlace→Prop):W.keptBut W' may:=by
 refine⟨h.os,h.output,fun i hi=>?_⟩
 rw[h.heap i hi]
 cases W.heap[i]? with
 | none=>exact rfl
 | some o=>cases o <;> first | exact⟨rfl,rfl,rfl,fun _ _=>rfl⟩ | exact .inr ⟨rfl,rfl⟩ | exact rfl
theorem Kz (W:World) (μ:Mu) (hgl:CU (fun _=>False) W.heap.size W):cd (eg (fun _=>False) [] μ W) μ [] W where
 gl:=fun p hp=>⟨(hgl p hp).1,fun (ha:Own [] μ p.1)=>mV ha,(hgl p hp).2.2⟩
 ey:=fun h k hk=>by cases hk
 dA:=fun h h' k k' y b m b' m' hk=>by cases hk
 cv:=fun h k b m y hk=>by cases hk
 fK:=fun h k hk=>by cases hk
 fo:=fun b hb=>hb.elim
 hb:=ar _
 os:=rfl
 tape:=rfl
 output:=rfl
 ec:=fun _ _ _=>rfl
def Arg (W:World) (g:G) (v:Value):Prop:=bp (fun _=>False) W g v
theorem GM.calls {P:Program}{f:FuncId}{args:List G}{x:Value}(h:GM P f args [] (fun g st=>g=.val x∧st=[])) (W:World) (vs:List Value) (hl:vs.length=args.length)
  (ha:∀(j:Nat) (g:G) (v:Value),args[j]?=some g→vs[j]?=some v→Arg W g v) (hgl:CU (fun _=>False) W.heap.size W:=by intro _ h;cases h):Calls P f vs.toArray W fun e W'=>e=.returned x∧u6 W W':=by
 refine(h.returned (fun _=>False) (fun _=>none) W vs (fun _ h=>h.elim) (Kz W _ hgl) hl (fun j g v hg hv=>.aD ((ha j g v hg hv).mono (Kept.refl _ _) fun b _ _ ho=>?_))).mono fun e W' hp=>?_
 ·rcases ho with ho | ⟨h,k,c,m,hk,_⟩
  ·exact ho
  ·cases hk
 ·obtain⟨v,r,st',μ',rfl,⟨rfl,rfl⟩,hr,hv⟩:=hp
  cases hv with
  | aD hv=>cases hv with
   | val=>exact⟨rfl,hr.os,hr.output,hr.hb,fun b hb=>hr.ec b hb fun ⟨h,k,c,m,hk,_⟩=>by cases hk⟩
section
variable {H:Type}{ft:TypeId×Value→H}{P:Program}
open Go.ChangeShapes Go.WideShapes Go.ChangeAt Go.RowKit
theorem u6.frozen {W W':World}(h:u6 W W') (a:Addr) (ha:a.block<W.heap.size):W'.frozen? a=W.frozen? a:=by
 unfold World.frozen?
 rw[h.heap _ ha]
theorem Fl {f:Func}{s:ChangeSpec}{apart fresh handsOn again:Bool}{W W':World}{args:Array Value}{v:Value}{ds gs:List (DataW H)}{before pa pv:List MemPlace}
  (hW:DataW.Whole ft P f.params.toList s.vars apart W args.toList ds gs before) (hS:u6 W W')
  (hres:∀(b:Nat) (sp:Nat→Bool) (hd:Bool),DataW.TrodAll ft P W' b sp hd f.resultTypes.toList (v.resultList f.resultTypes.size) (s.fn H (ds++gs)).results [])
  (hargs:∀sp:Nat→Bool,(∀p∈before,sp p.block=true)→DataW.TrodAll ft P W' 0 sp true f.params.toList args.toList (s.fn H (ds++gs)).args pa)
  (hvars:∀sp:Nat→Bool,(∀p∈before,sp p.block=true)→DataW.TrodVars ft P W' sp s.vars (s.fn H (ds++gs)).vars pv)
  (hps:before=pa++pv)
  (hok:∀(j:Nat) (t:TypeId) (r:Value),f.resultTypes[j]?=some t→(v.resultList f.resultTypes.size)[j]?=some r→Value.okWide P W' .any 0 t r):
  s.post ft P f apart fresh handsOn again W args v W':=by
 have hlt:=hW.lt
 have hold:∀p∈before,(fun b=>decide (b<W.heap.size)) p.block=true:=fun p hp=>by simpa using hlt p hp
 obtain⟨_,_,_,_,_,hz,hn⟩:=id hW
 subst hps
 refine⟨ds,gs,pa++pv,[],pa,pv,hW,hres _ _ _,hargs _ hold,hvars _ hold,World.keptBut_mono (fun p hp=>⟨hp,.inr (by simpa using hp)⟩) (hS.frame _),fun _=>⟨hok,_,_,([]++pa)++pv,⟨[]++pa,pv,trodAll_append (hargs _ (fun _ _=>rfl)) (hres _ _ _),hvars _ (fun _ _=>rfl),rfl,?_,?_⟩,?_⟩⟩
 ·intro b off hp
  have hp':MemPlace.cell b off∈pa++pv:=by simpa using hp
  rw[hS.frozen _ (hlt _ hp')]
  exact hz b off hp'
 ·intro ha
  simpa using hn ha
 ·intro p hp _
  simpa using hp
end
def yq (W:World) (gs:List G) (cs:List Value):Prop:=cs.length=gs.length∧∀(j:Nat) (g:G) (v:Value),gs[j]?=some g→cs[j]?=some v→Arg W g v
theorem yq.one {W:World}{g:G}{v:Value}(h:Arg W g v):yq W [g] [v]:=by
 refine⟨rfl,fun j g' v' hg hv=>?_⟩
 match j with
 | 0=>cases hg;cases hv;exact h
 | j+1=>cases hg
section
variable {P:Program}
def sg (W:World) (gs:List G) (cs:List Value) (off:Nat):Prop:=∀(j:Nat) (g:G),gs[j]?=some g→∃v,cs[off+j]?=some v∧Arg W g v
theorem yq.at {W:World}{gs:List G}{cs:List Value}{off sz:Nat}(h:yq W gs ((cs.drop off).take sz)):sg W gs cs off:=fun j g hg=>by
 have hj:=(av.1 hg).1
 rw[←h.1] at hj
 have hv:=ao hj
 refine⟨_,?_,h.2 j g _ hg hv⟩
 rw[bg] at hv
 split at hv
 ·rw[bn] at hv;exact hv
 ·cases hv
theorem sg.append {W:World}{g1 g2:List G}{cs:List Value}{off off2:Nat}(h1:sg W g1 cs off) (ho:off2=off+g1.length) (h2:sg W g2 cs off2):sg W (g1++g2) cs off:=fun j g hg=>by
 rw[bC] at hg
 split at hg
 ·exact h1 j g hg
 ·rename_i hj
  obtain⟨v,hv,hr⟩:=h2 _ g hg
  exact⟨v,by rw[←hv,ho];congr 1;omega,hr⟩
theorem sg.all {W:World}{gs:List G}{cs:List Value}(h:sg W gs cs 0) (hl:cs.length=gs.length):yq W gs cs:=⟨hl,fun j g v hg hv=>by
 obtain⟨v',h1,h2⟩:=h j g hg
 rw[cN,hv] at h1
 cases h1
 exact h2⟩
end
section
variable {H:Type}{ft:TypeId×Value→H}{P:Program}
open Go.ChangeShapes Go.WideShapes Go.ChangeAt Go.RowKit
theorem u6.at {W W':World}(h:u6 W W') (p:MemPlace) (hp:p.block<W.heap.size):W.sameAt W' p:=by
 cases p with
 | cell b off=>exact World.cell?_of_block (h.heap b hp)
 | map b=>exact h.heap b hp
theorem Ky {W W':World}(hl:laidOutB P=true) (hS:u6 W W'):∀{ts:List TypeId}{vs:List Value}{ds:List (DataW H)}{ps:List MemPlace}{sp:Nat→Bool},(∀t∈ts,P.readableRec t=true∧t<P.types.size)→
  DataW.TrodAll ft P W 0 (fun _=>true) true ts vs ds ps→(∀p∈ps,p.block<W.heap.size)→(∀p∈ps,sp p.block=true)→DataW.TrodAll ft P W' 0 sp true ts vs ds ps
 | [],[],[],_,_,_,h,_,_=>h
 | t::ts,v::vs,d::ds,_,sp,ht,⟨p,q,h1,h2,e⟩,hlt,hs=>by
  subst e
  obtain⟨h3,h4⟩:=ht t (aC ..)
  exact⟨p,q,Go.WideElems.Trod_stays hl h3 h4 h1 (fun x hx=>hS.at x (hlt x (cy _ hx))) (fun x hx=>hs x (cy _ hx)),
   Ky hl hS (fun t' h'=>ht t' (aw _ h')) h2 (fun x hx=>hlt x (cL _ hx)) (fun x hx=>hs x (cL _ hx)),rfl⟩
theorem MA {f:Func}{s:ChangeSpec}{W W':World}{args:Array Value}{tb:TypeId}{ds gs:List (DataW H)}{before:List MemPlace}(hv:s.vars=[]) (hr:f.resultTypes=#[tb]) (hb:P.underlying tb=some .bool) (hl:laidOutB P=true)
  (hts:∀t∈f.params.toList,P.readableRec t=true∧t<P.types.size) (hW:DataW.Whole ft P f.params.toList s.vars false W args.toList ds gs before) (hS:u6 W W') (hfn:gs=[]→s.fn H (ds++gs)={results:=[.lit (.bool true)],args:=ds}):
  s.post ft P f false true false false W args (.bool true) W':=by
 have hlt:=hW.lt
 obtain⟨p,q,hA,hV,rfl,hfz,cZ⟩:=id hW
 have hgq:gs=[]∧q=[]:=by
  rw[hv] at hV
  cases gs with
  | nil=>exact⟨rfl,hV⟩
  | cons _ _=>exact hV.elim
 obtain⟨rfl,rfl⟩:=hgq
 refine Fl (pa:=p) (pv:=[]) hW hS (fun _ _ _=>?_) (fun sp hsp=>?_) (fun sp hsp=>?_) rfl (ok_one hr rfl (okWide_bool_mk hb _))
 ·rw[hr,hfn rfl]
  exact trodAll_cons_mk (shut_bool hb _) trodAll_mk0
 ·rw[hfn rfl]
  exact Ky hl hS hts hA (fun x hx=>hlt x (cy _ hx)) (fun x hx=>hsp x (cy _ hx))
 ·rw[hfn rfl,hv]
  rfl
end
end Go.AM
/-
 AM,part Zu:arguments of small bulk,opened.
-/
namespace Go.Proofs.YtmhbeopldeccmaaDoor.Up
open Go.AM
open Go.Proofs.YtmhbeopldeccmaaDoor.Rows (uptoBulk uptoBulkAll uptoSmall)
open Go.Deep
theorem NI {H:Type}(d:DataW H):1≤uptoBulk d:=by
 cases d with
 | lit l=>cases l <;> simp[uptoBulk]
 | _=>simp[uptoBulk]
theorem wS {H:Type}{d:DataW H}:∀{l:List (DataW H)},d∈l→uptoBulk d≤uptoBulkAll l
 | [],h=>by cases h
 | x::r,h=>by
  simp only[uptoBulkAll]
  rcases bU.1 h with e | h
  ·subst e;omega
  ·have:=wS h;omega
section
variable {P:Program}
end
end Go.Proofs.YtmhbeopldeccmaaDoor.Up
/-
 AM,part Zw:arguments of small bulk,opened,with what they weigh (for types that hold themselves).
-/
namespace Go.Proofs.YtmhbeopldeccmaaDoor.Up
open Go.AM
open Go.Proofs.YtmhbeopldeccmaaDoor.Rows (uptoBulk uptoBulkAll uptoSmall)
open Go.Deep
def PQ {α:Type}(w:α→Nat) (l:List α):Nat:=(l.map w).sum+1
theorem GC {H:Type}:∀l r:List (DataW H),uptoBulkAll (l++r)=uptoBulkAll l+uptoBulkAll r
 | [],r=>by simp[uptoBulkAll]
 | d::l,r=>by simp only[ca,uptoBulkAll,GC l r];omega
def bM (P:Program) (t:TypeId) (α:Type) [aO α] (ok:α→Prop) (wt:α→Nat) (B:Nat):Prop:=
 ∀{H:Type}(ft:TypeId×Value→H) (W:World) (base:Nat) (sp:Nat→Bool) (held:Bool) (bi:Nat) (cs:List Value) (x:DataW H×List MemPlace),
  DataW.trod ft P W base sp held bi t cs=some x→uptoBulk x.1≤B→∃a:α,ok a∧wt a≤uptoBulk x.1∧yq W (aO.cells a) cs
section
variable {P:Program}
theorem bM.le {t:TypeId}{α:Type}[aO α]{ok:α→Prop}{wt:α→Nat}{B B':Nat}(h:bM P t α ok wt B) (hB:B'≤B):bM P t α ok wt B':=fun ft W base sp held bi cs x hx hu=>h ft W base sp held bi cs x hx (cR hu hB)
theorem bM.int {t:TypeId}{B:Nat}(ht:P.underlying t=some (.int .i64)):bM P t Int ss (fun _=>1) B:=fun ft W base sp held bi cs x h _=>by
 obtain⟨n,rfl,rfl,hw⟩:=DataW.trod_int ht h
 refine⟨n,?_,ar _,.one (.val _)⟩
 simpa[ss,Lit.wf,IntKind.min,IntKind.max,IntKind.signed,IntKind.bits] using hw
theorem bM.bool {t:TypeId}{B:Nat}(ht:P.underlying t=some .bool):bM P t Bool (fun _=>True) (fun _=>1) B:=fun ft W base sp held bi cs x h _=>by
 obtain⟨n,rfl,rfl⟩:=DataW.trod_bool ht h
 exact⟨n,trivial,ar _,.one (.val _)⟩
theorem bM.string {t:TypeId}{B:Nat}(ht:P.underlying t=some .string):bM P t ByteArray Ry (fun s=>s.size+1) B:=fun ft W base sp held bi cs x h _=>by
 obtain⟨s,rfl,rfl,hs⟩:=DataW.trod_string ht h
 exact⟨s,by simpa[Ry,maxLen] using hs,ar _,.one (.val _)⟩
theorem bM.slice {t e:TypeId}{α:Type}[aO α]{ok:α→Prop}{wt:α→Nat}{B:Nat}(ht:P.underlying t=some (.slice e)) (hc:P.cellsOf e=aO.sz α) (he:bM P e α ok wt B):bM P t (List α) (fun l=>∀x∈l,ok x) (PQ wt) (B+1):=fun ft W base sp held bi cs x h hu=>by
 rcases Go.Deep.open_slice ht h with ⟨rfl,rfl⟩ | ⟨a,len,cap,m,n,D,Pl,rfl,_,hl,hm,hmd,hxx,hel⟩
 ·exact⟨[],(fun x hx=>absurd hx List.not_mem_nil),ar _,.one .nil⟩
 ·have hlm:len≤m:=by rw[hmd];split <;> omega
  rw[hxx] at hu⊢
  have hB:uptoBulkAll ((List.range len).map D)+uptoBulkAll ((List.range (m-len)).map fun j=>D (len+j))+1≤B+1:=hu
  have hDi:∀i,i<len→uptoBulk (D i)≤B:=fun i hi=>by
   have:=wS (iY (f:=D) (List.mem_range.2 hi))
   omega
  have hgoal:uptoBulk (DataW.slice ((List.range len).map D) ((List.range (m-len)).map fun j=>D (len+j)))=uptoBulkAll ((List.range len).map D)+uptoBulkAll ((List.range (m-len)).map fun j=>D (len+j))+1:=rfl
  rcases mf len with h0 | h0
  ·subst h0
   exact⟨[],(fun x hx=>absurd hx List.not_mem_nil),by rw[hgoal];show 0+1≤_;omega,.one (.iw a cap)⟩
  ·have hrow:∀i,i<len→∃(cs':List Value) (b:α),W.cells? base (a.add (i*aO.sz α)) (aO.sz α)=some cs'∧ok b∧yq W (aO.cells b) cs'∧wt b≤uptoBulk (D i):=fun i hi=>by
    obtain⟨cs',h1,h2⟩:=hel i (by omega)
    obtain⟨b,h3,h5,h4⟩:=he ft W base sp held n cs' _ h2 (hDi i (by omega))
    rw[hc] at h1
    exact⟨cs',b,h1,h3,h4,h5⟩
   have hch:∃(l:List α) (rows:Nat→List Value),l.length=len∧(l.map wt).sum≤uptoBulkAll ((List.range len).map D)∧∀i b,l[i]?=some b→W.cells? base (a.add (i*aO.sz α)) (aO.sz α)=some (rows i)∧ok b∧yq W (aO.cells b) (rows i):=by
    clear h hel hl hlm hmd h0 hxx hB hDi hu hgoal
    induction len with
    | zero=>exact⟨[],fun _=>[],rfl,cI _,fun i b hb=>by cases hb⟩
    | succ k ih=>
     obtain⟨l,rows,h1,hw,h2⟩:=ih (fun i hi=>hrow i (by omega))
     obtain⟨cs',b,h3,h4,h5,h6⟩:=hrow k (by omega)
     refine⟨l++[b],fun i=>if i=k then cs' else rows i,by simp[h1],by
      rw[List.range_succ,gk,gk,GC,List.sum_append]
      simp only[az,dE,iy,List.sum_nil,uptoBulkAll]
      omega,fun i b' hb=>?_⟩
     rw[bC] at hb
     split at hb
     ·rename_i hi
      have hne:i≠k:=by omega
      simp only[hne,if_false]
      exact h2 i b' hb
     ·rename_i hi
      have:i=k:=by
       have:=(av.1 hb).1
       simp at this;omega
      subst this
      rw[h1,Nat.sub_self] at hb
      cases hb
      simp only[if_true]
      exact⟨h3,h4,h5⟩
   obtain⟨l,rows,h1,hwt,h2⟩:=hch
   have hcell:∀(i:Nat) (b:α),l[i]?=some b→∀r,r<aO.sz α→W.cell? ((a.add (i*aO.sz α)).add r)=(rows i)[r]?∧(rows i).length=aO.sz α:=fun i b hb r hr=>by
    obtain⟨h3,_,h5⟩:=h2 i b hb
    obtain⟨_,h6,h7⟩:=World.cells?_some h3
    exact⟨h7 r hr,h6⟩
   have hfirst:∃v,W.cell? a=some v:=by
    obtain⟨b,hb⟩:∃b,l[0]?=some b:=⟨l[0]'(by omega),ao _⟩
    obtain⟨h3,h4⟩:=hcell 0 b hb 0 aO.pos
    have e:(a.add (0*aO.sz α)).add 0=a:=by simp[Addr.add]
    rw[e] at h3
    exact⟨_,h3.trans (ao (by rw[h4];exact aO.pos))⟩
   obtain⟨v0,hv0⟩:=hfirst
   have hblk:a.spot=none∧a.block<W.heap.size:=by
    unfold World.cell? at hv0
    split at hv0
    ·rename_i c _ _ hb
     split at hv0
     ·cases hv0
     ·rename_i hs
      exact⟨by simpa using hs,(kJ.1 hb).1⟩
    ·cases hv0
   obtain⟨b,off,spot⟩:=a
   obtain⟨rfl,hb⟩:=hblk
   simp only[Addr.l3] at hcell
   refine⟨l,(fun x hx=>?_),by rw[hgoal];show(l.map wt).sum+1≤_;omega,.one ?_⟩
   ·obtain⟨i,hi⟩:=eZ hx
    exact(h2 i x hi).2.1
   ·rw[←h1]
    refine .sl l.length (ed l) b off cap (fun j=>(W.cell? ⟨b,off+j,none⟩).getD undef) (by omega) (fun h=>h) hb (fun j hj=>?_) (fun j g hg=>?_)
    ·rw[iA] at hj
     have hi:j/aO.sz α<l.length:=Nat.div_lt_of_lt_mul (by rwa[p5] at hj)
     have hr:j%aO.sz α<aO.sz α:=Nat.mod_lt _ aO.pos
     obtain⟨h3,h4⟩:=hcell (j/aO.sz α) _ (ao hi) _ hr
     have e:off+j/aO.sz α*aO.sz α+j%aO.sz α=off+j:=by
      have:=Nat.div_add_mod j (aO.sz α)
      rw[p5] at this
      omega
     rw[e] at h3
     rw[h3,ao (by omega)]
     rfl
    ·have hj:=(av.1 hg).1
     rw[iA] at hj
     have hi:j/aO.sz α<l.length:=Nat.div_lt_of_lt_mul (by rwa[p5] at hj)
     have hr:j%aO.sz α<aO.sz α:=Nat.mod_lt _ aO.pos
     obtain⟨h3,h4⟩:=hcell (j/aO.sz α) _ (ao hi) _ hr
     obtain⟨_,_,h5⟩:=h2 _ _ (ao hi)
     have e:off+j/aO.sz α*aO.sz α+j%aO.sz α=off+j:=by
      have:=Nat.div_add_mod j (aO.sz α)
      rw[p5] at this
      omega
     rw[e] at h3
     have hge:=tJ (ao hi) hr
     have e2:j/aO.sz α*aO.sz α+j%aO.sz α=j:=by omega
     rw[e2,hg] at hge
     have hv:=ao (l:=rows (j/aO.sz α)) (i:=j%aO.sz α) (by omega)
     rw[h3,hv]
     exact h5.2 _ _ _ hge.symm hv
theorem bM.sliceB {t e:TypeId}{α:Type}[aO α]{ok:α→Prop}{wt:α→Nat}{B:Nat}(ht:P.underlying t=some (.slice e)) (hc:P.cellsOf e=aO.sz α) (he:bM P e α ok wt B):bM P t (List α) (fun l=>∀x∈l,ok x) (PQ wt) B:=
 bM.le (bM.slice ht hc he) (Nat.le_succ B)
theorem bM.field {H:Type}{ft:TypeId×Value→H}{W:World}{base:Nat}{sp:Nat→Bool}{held:Bool}{n:Nat}{cs:List Value}{xs:List (DataW H×List MemPlace)}{fs:Array Field}{α:Type}[aO α]{ok:α→Prop}{wt:α→Nat}{B:Nat}
  (hlen:xs.length=fs.size) (hf:∀(i:Nat) (f:Field),fs[i]?=some f→DataW.trod ft P W base sp held n f.type ((cs.drop f.offset).take (P.cellsOf f.type))=xs[i]?) (i:Nat){f:Field}{y:DataW H×List MemPlace}(hi:fs[i]?=some f) (hy:xs[i]?=some y) (he:bM P f.type α ok wt B) (hub:uptoBulkAll (xs.map (·.1))≤B):
  ∃a:α,ok a∧wt a≤uptoBulk y.1∧sg W (aO.cells a) cs f.offset:=by
 have h1:=hf i f hi
 rw[hy] at h1
 obtain⟨a,h2,h4,h3⟩:=he ft W base sp held n _ _ h1 (cR (wS (iY (aQ hy))) hub)
 exact⟨a,h2,h4,h3.at⟩
theorem NR {H:Type}{ft:TypeId×Value→H}{W:World}{b0 base:Nat}{sp:Nat→Bool}{held:Bool}{r:Reach}{t:TypeId}{v:Value}{d:DataW H}{ps:List MemPlace}{α:Type}[aO α]{ok:α→Prop}{wt:α→Nat}{B:Nat}(he:bM P t α ok wt B)
  (hn:∀fs,P.underlying t≠some (.struct fs)) (hn':∀m e,P.underlying t≠some (.array m e)) (hval:Value.okWide P W r b0 t v) (hd:DataW.Trod ft P W base sp held t v d ps) (hub:uptoBulk d≤B):∃a:α,ok a∧wt a≤B∧∀g,aO.cells a=[g]→Arg W g v:=by
 obtain⟨bi,hf⟩:=hd
 obtain⟨a,h1,h3,h2⟩:=he ft W base sp held bi _ _ hf hub
 refine⟨a,h1,cR h3 hub,fun g hg=>?_⟩
 have hc:v.cells=#[v]:=by
  unfold Value.okWide at hval
  split at hval
  ·rename_i fs h;exact absurd h (hn fs)
  ·rename_i m e h;exact absurd h (hn' m e)
  ·cases v with
   | agg cs=>
    exfalso
    revert hval
    unfold Cell.okWide Cell.ok
    cases P.underlying t with
    | none=>exact fun h=>h
    | some dsc=>cases dsc <;> exact fun h=>h
   | _=>rfl
 rw[hg,hc] at h2
 exact h2.2 0 g v rfl rfl
end
end Go.Proofs.YtmhbeopldeccmaaDoor.Up
