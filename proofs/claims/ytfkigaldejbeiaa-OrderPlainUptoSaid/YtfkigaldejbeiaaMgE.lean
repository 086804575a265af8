/-
  From a ew to what a row asks.
-/
import Derived.Test.YtfkigaldejbeiaaMgB
import Derived.Test.YtfkigaldejbeiaaRows
import Derived.WalkKit
import Derived.ProofKit
import Derived.OpenShut
import Derived.JoinedCond
import Derived.Deep.Slices
import Derived.WideKeyArgs
set_option linter.unusedSectionVars false
set_option linter.unusedSimpArgs false
set_option linter.unusedVariables false
/-
 AM,part Z:from a ew to what a row asks.
-/
namespace Go.AM
structure vL (W W':World):Prop where
 os:W'.os=W.os
 output:W'.output=W.output
 size:W.heap.size≤W'.heap.size
 heap:∀b,b<W.heap.size→W'.heap[b]?=W.heap[b]?
theorem vL.frame {W W':World}(h:vL W W') (may:MemPlace→Prop):W.keptBut W' may:=by
 refine⟨h.os,h.output,fun i hi=>?_⟩
 rw[h.heap i hi]
 cases W.heap[i]? with
 | none=>exact rfl
 | some o=>cases o <;> first | exact⟨rfl,rfl,rfl,fun _ _=>rfl⟩ | exact .inr ⟨rfl,rfl⟩ | exact rfl
theorem MF (W:World) (μ:Mu):cO (jz (fun _=>False) [] μ W) μ [] W where
 dc:=fun h k hk=>by cases hk
 cE:=fun h h' k k' y b m b' m' hk=>by cases hk
 bU:=fun h k b m y hk=>by cases hk
 ei:=fun h k hk=>by cases hk
 eg:=fun b hb=>hb.elim
 hb:=az _
 os:=rfl
 tape:=rfl
 output:=rfl
 da:=fun _ _ _=>rfl
def Arg (W:World) (g:G) (v:Value):Prop:=bG (fun _=>False) W g v
theorem GM.calls {P:Program}{f:FuncId}{args:List G}{x:Value}(h:GM P f args [] (fun g st=>g=.val x∧st=[])) (W:World) (vs:List Value) (hl:vs.length=args.length)
  (ha:∀(j:Nat) (g:G) (v:Value),args[j]?=some g→vs[j]?=some v→Arg W g v):Calls P f vs.toArray W fun e W'=>e=.returned x∧vL W W':=by
 refine(h.returned (fun _=>False) (fun _=>none) W vs (fun _ h=>h.elim) (MF W _) hl (fun j g v hg hv=>.aH ((ha j g v hg hv).mono (Kept.refl _ _) fun b _ _ ho=>?_))).mono fun e W' hp=>?_
 ·rcases ho with ho | ⟨h,k,c,m,hk,_⟩
  ·exact ho
  ·cases hk
 ·obtain⟨v,r,st',μ',rfl,⟨rfl,rfl⟩,hr,hv⟩:=hp
  cases hv with
  | aH hv=>cases hv with
   | val=>exact⟨rfl,hr.os,hr.output,hr.hb,fun b hb=>hr.da b hb fun ⟨h,k,c,m,hk,_⟩=>by cases hk⟩
section
variable {H:Type}{enc:TypeId×Value→H}{P:Program}
open Go.ChangeShapes Go.WideShapes Go.ChangeAt Go.RowKit
theorem vL.frozen {W W':World}(h:vL W W') (a:Addr) (ha:a.block<W.heap.size):W'.frozen? a=W.frozen? a:=by
 unfold World.frozen?
 rw[h.heap _ ha]
theorem Hc {f:Func}{s:ChangeSpec}{apart fresh handsOn again:Bool}{W W':World}{args:Array Value}{v:Value}{ds gs:List (DataW H)}{before pa pv:List MemPlace}
  (hW:DataW.Whole enc P f.params.toList s.vars apart W args.toList ds gs before) (hS:vL W W')
  (hres:∀(b:Nat) (sp:Nat→Bool) (hd:Bool),DataW.TrodAll enc P W' b sp hd f.resultTypes.toList (v.resultList f.resultTypes.size) (s.fn H (ds++gs)).results [])
  (hargs:∀sp:Nat→Bool,(∀p∈before,sp p.block=true)→DataW.TrodAll enc P W' 0 sp true f.params.toList args.toList (s.fn H (ds++gs)).args pa)
  (hvars:∀sp:Nat→Bool,(∀p∈before,sp p.block=true)→DataW.TrodVars enc P W' sp s.vars (s.fn H (ds++gs)).vars pv)
  (hps:before=pa++pv)
  (hok:∀(j:Nat) (t:TypeId) (r:Value),f.resultTypes[j]?=some t→(v.resultList f.resultTypes.size)[j]?=some r→Value.okWide P W' .any 0 t r):
  s.post enc P f apart fresh handsOn again W args v W':=by
 have hlt:=hW.lt
 have hold:∀p∈before,(fun b=>decide (b<W.heap.size)) p.block=true:=fun p hp=>by simpa using hlt p hp
 obtain⟨_,_,_,_,_,hz,hn⟩:=id hW
 subst hps
 refine⟨ds,gs,pa++pv,[],pa,pv,hW,hres _ _ _,hargs _ hold,hvars _ hold,World.keptBut_mono (fun p hp=>⟨hp,.inr (by simpa using hp)⟩) (hS.frame _),fun _=>⟨hok,_,_,([]++pa)++pv,⟨[]++pa,pv,trodAll_append (hargs _ (fun _ _=>rfl)) (hres _ _ _),hvars _ (fun _ _=>rfl),rfl,?_,?_⟩,?_⟩⟩
 ·intro b off hp
  have hp':MemPlace.cell b off∈pa++pv:=by simpa using hp
  rw[hS.frozen _ (hlt _ hp')]
  exact hz b off hp'
 ·intro ha
  simpa using hn ha
 ·intro p hp _
  simpa using hp
end
def uB (W:World) (gs:List G) (cs:List Value):Prop:=cs.length=gs.length∧∀(j:Nat) (g:G) (v:Value),gs[j]?=some g→cs[j]?=some v→Arg W g v
def jf (P:Program) (t:TypeId) (α:Type) [aL α] (ok:α→Prop):Prop:=
 ∀{H:Type}(enc:TypeId×Value→H) (W:World) (base:Nat) (sp:Nat→Bool) (held:Bool) (aK:Nat) (cs:List Value) (x:DataW H×List MemPlace),
  DataW.trod enc P W base sp held aK t cs=some x→∃a:α,ok a∧uB W (aL.cells a) cs
theorem uB.one {W:World}{g:G}{v:Value}(h:Arg W g v):uB W [g] [v]:=by
 refine⟨rfl,fun j g' v' hg hv=>?_⟩
 match j with
 | 0=>cases hg;cases hv;exact h
 | j+1=>cases hg
section
variable {P:Program}
theorem jf.int {t:TypeId}(ht:P.underlying t=some (.int .i64)):jf P t Int y8:=fun enc W base sp held aK cs x h=>by
 obtain⟨n,rfl,_,hw⟩:=DataW.trod_int ht h
 refine⟨n,?_,.one (.val _)⟩
 simpa[y8,Lit.wf,IntKind.min,IntKind.max,IntKind.signed,IntKind.bits] using hw
theorem jf.bool {t:TypeId}(ht:P.underlying t=some .bool):jf P t Bool (fun _=>True):=fun enc W base sp held aK cs x h=>by
 obtain⟨n,rfl,_⟩:=DataW.trod_bool ht h
 exact⟨n,trivial,.one (.val _)⟩
theorem jf.string {t:TypeId}(ht:P.underlying t=some .string):jf P t ByteArray SP:=fun enc W base sp held aK cs x h=>by
 obtain⟨s,rfl,_,hs⟩:=DataW.trod_string ht h
 exact⟨s,by simpa[SP,maxLen] using hs,.one (.val _)⟩
theorem jf.slice {t e:TypeId}{α:Type}[aL α]{ok:α→Prop}(ht:P.underlying t=some (.slice e)) (hc:P.cellsOf e=aL.sz α) (he:jf P e α ok):jf P t (List α) (Ry ok):=fun enc W base sp held aK cs x h=>by
 rcases Go.Deep.open_slice ht h with ⟨rfl,_⟩ | ⟨a,len,cap,m,n,D,Pl,rfl,_,hl,hm,hmd,hxx,hel⟩
 ·exact⟨[],⟨hZ _,fun x hx=>by cases hx⟩,.one .nil⟩
 ·have hlm:len≤m:=by rw[hmd];split <;> omega
  rcases fx len with h0 | h0
  ·subst h0
   exact⟨[],⟨hZ _,fun x hx=>by cases hx⟩,.one (.gQ a cap)⟩
  ·have hrow:∀i,i<len→∃(cs':List Value) (b:α),W.cells? base (a.add (i*aL.sz α)) (aL.sz α)=some cs'∧ok b∧uB W (aL.cells b) cs':=fun i hi=>by
    obtain⟨cs',h1,h2⟩:=hel i (by omega)
    obtain⟨b,h3,h4⟩:=he enc W base sp held n cs' _ h2
    rw[hc] at h1
    exact⟨cs',b,h1,h3,h4⟩
   have hch:∃(l:List α) (rows:Nat→List Value),l.length=len∧∀i b,l[i]?=some b→W.cells? base (a.add (i*aL.sz α)) (aL.sz α)=some (rows i)∧ok b∧uB W (aL.cells b) (rows i):=by
    clear h hel hl hlm hmd h0 hxx
    induction len with
    | zero=>exact⟨[],fun _=>[],rfl,fun i b hb=>by cases hb⟩
    | succ k ih=>
     obtain⟨l,rows,h1,h2⟩:=ih (fun i hi=>hrow i (by omega))
     obtain⟨cs',b,h3,h4,h5⟩:=hrow k (by omega)
     refine⟨l++[b],fun i=>if i=k then cs' else rows i,by simp[h1],fun i b' hb=>?_⟩
     rw[a9] at hb
     split at hb
     ·rename_i hi
      have hne:i≠k:=by omega
      simp only[hne,if_false]
      exact h2 i b' hb
     ·rename_i hi
      have:i=k:=by
       have:=(al.1 hb).1
       simp at this;omega
      subst this
      rw[h1,pD] at hb
      cases hb
      simp only[if_true]
      exact⟨h3,h4,h5⟩
   obtain⟨l,rows,h1,h2⟩:=hch
   have hcell:∀(i:Nat) (b:α),l[i]?=some b→∀r,r<aL.sz α→W.cell? ((a.add (i*aL.sz α)).add r)=(rows i)[r]?∧(rows i).length=aL.sz α:=fun i b hb r hr=>by
    obtain⟨h3,_,h5⟩:=h2 i b hb
    obtain⟨_,h6,h7⟩:=World.cells?_some h3
    exact⟨h7 r hr,h6⟩
   have hfirst:∃v,W.cell? a=some v:=by
    obtain⟨b,hb⟩:∃b,l[0]?=some b:=⟨l[0]'(by omega),ag _⟩
    obtain⟨h3,h4⟩:=hcell 0 b hb 0 aL.pos
    have e:(a.add (0*aL.sz α)).add 0=a:=by simp[Addr.add]
    rw[e] at h3
    exact⟨_,h3.trans (ag (by rw[h4];exact aL.pos))⟩
   obtain⟨v0,hv0⟩:=hfirst
   have hblk:a.spot=none∧a.block<W.heap.size:=by
    unfold World.cell? at hv0
    split at hv0
    ·rename_i c _ _ hb
     split at hv0
     ·cases hv0
     ·rename_i hs
      exact⟨by simpa using hs,(fX.1 hb).1⟩
    ·cases hv0
   obtain⟨b,off,spot⟩:=a
   obtain⟨rfl,hb⟩:=hblk
   simp only[Addr.iY] at hcell
   refine⟨l,⟨by rw[h1];simp only[maxLen] at hm;omega,fun x hx=>?_⟩,.one ?_⟩
   ·obtain⟨i,hi⟩:=bR hx
    exact(h2 i x hi).2.1
   ·rw[←h1]
    refine .sl l.length (c8 l) b off cap (fun j=>(W.cell? ⟨b,off+j,none⟩).getD undef) (by omega) (fun h=>h) hb (fun j hj=>?_) (fun j g hg=>?_)
    ·rw[eT] at hj
     have hi:j/aL.sz α<l.length:=mQ (by rwa[jM] at hj)
     have hr:j%aL.sz α<aL.sz α:=mP _ aL.pos
     obtain⟨h3,h4⟩:=hcell (j/aL.sz α) _ (ag hi) _ hr
     have e:off+j/aL.sz α*aL.sz α+j%aL.sz α=off+j:=by
      have:=Nat.div_add_mod j (aL.sz α)
      rw[jM] at this
      omega
     rw[e] at h3
     rw[h3,ag (by omega)]
     rfl
    ·have hj:=(al.1 hg).1
     rw[eT] at hj
     have hi:j/aL.sz α<l.length:=mQ (by rwa[jM] at hj)
     have hr:j%aL.sz α<aL.sz α:=mP _ aL.pos
     obtain⟨h3,h4⟩:=hcell (j/aL.sz α) _ (ag hi) _ hr
     obtain⟨_,_,h5⟩:=h2 _ _ (ag hi)
     have e:off+j/aL.sz α*aL.sz α+j%aL.sz α=off+j:=by
      have:=Nat.div_add_mod j (aL.sz α)
      rw[jM] at this
      omega
     rw[e] at h3
     have hge:=oZ (ag hi) hr
     have e2:j/aL.sz α*aL.sz α+j%aL.sz α=j:=by omega
     rw[e2,hg] at hge
     have hv:=ag (l:=rows (j/aL.sz α)) (i:=j%aL.sz α) (by omega)
     rw[h3,hv]
     exact h5.2 _ _ _ hge.symm hv
def qv (W:World) (gs:List G) (cs:List Value) (off:Nat):Prop:=∀(j:Nat) (g:G),gs[j]?=some g→∃v,cs[off+j]?=some v∧Arg W g v
theorem uB.at {W:World}{gs:List G}{cs:List Value}{off sz:Nat}(h:uB W gs ((cs.drop off).take sz)):qv W gs cs off:=fun j g hg=>by
 have hj:=(al.1 hg).1
 rw[←h.1] at hj
 have hv:=ag hj
 refine⟨_,?_,h.2 j g _ hg hv⟩
 rw[bf] at hv
 split at hv
 ·rw[bj] at hv;exact hv
 ·cases hv
theorem qv.append {W:World}{g1 g2:List G}{cs:List Value}{off off2:Nat}(h1:qv W g1 cs off) (ho:off2=off+g1.length) (h2:qv W g2 cs off2):qv W (g1++g2) cs off:=fun j g hg=>by
 rw[a9] at hg
 split at hg
 ·exact h1 j g hg
 ·rename_i hj
  obtain⟨v,hv,hr⟩:=h2 _ g hg
  exact⟨v,by rw[←hv,ho];congr 1;omega,hr⟩
theorem qv.all {W:World}{gs:List G}{cs:List Value}(h:qv W gs cs 0) (hl:cs.length=gs.length):uB W gs cs:=⟨hl,fun j g v hg hv=>by
 obtain⟨v',h1,h2⟩:=h j g hg
 rw[bT,hv] at h1
 cases h1
 exact h2⟩
theorem jf.field {H:Type}{enc:TypeId×Value→H}{W:World}{base:Nat}{sp:Nat→Bool}{held:Bool}{n:Nat}{cs:List Value}{xs:List (DataW H×List MemPlace)}{fs:Array Field}{α:Type}[aL α]{ok:α→Prop}
  (hlen:xs.length=fs.size) (hf:∀(i:Nat) (f:Field),fs[i]?=some f→DataW.trod enc P W base sp held n f.type ((cs.drop f.offset).take (P.cellsOf f.type))=xs[i]?) (i:Nat){f:Field}(hi:fs[i]?=some f) (he:jf P f.type α ok):
  ∃a:α,ok a∧qv W (aL.cells a) cs f.offset:=by
 have h1:=hf i f hi
 have hl:i<xs.length:=by rw[hlen];exact(fX.1 hi).1
 rw[ag hl] at h1
 obtain⟨a,h2,h3⟩:=he enc W base sp held n _ _ h1
 exact⟨a,h2,h3.at⟩
end
section
variable {H:Type}{enc:TypeId×Value→H}{P:Program}
open Go.ChangeShapes Go.WideShapes Go.ChangeAt Go.RowKit
theorem vL.at {W W':World}(h:vL W W') (p:MemPlace) (hp:p.block<W.heap.size):W.sameAt W' p:=by
 cases p with
 | cell b off=>exact World.cell?_of_block (h.heap b hp)
 | map b=>exact h.heap b hp
theorem MB {W W':World}(hl:laidOutB P=true) (hS:vL W W'):∀{ts:List TypeId}{vs:List Value}{ds:List (DataW H)}{ps:List MemPlace}{sp:Nat→Bool},(∀t∈ts,P.readableRec t=true∧t<P.types.size)→
  DataW.TrodAll enc P W 0 (fun _=>true) true ts vs ds ps→(∀p∈ps,p.block<W.heap.size)→(∀p∈ps,sp p.block=true)→DataW.TrodAll enc P W' 0 sp true ts vs ds ps
 | [],[],[],_,_,_,h,_,_=>h
 | t::ts,v::vs,d::ds,_,sp,ht,⟨p,q,h1,h2,e⟩,hlt,hs=>by
  subst e
  obtain⟨h3,h4⟩:=ht t (au ..)
  exact⟨p,q,Go.WideElems.Trod_stays hl h3 h4 h1 (fun x hx=>hS.at x (hlt x (bV _ hx))) (fun x hx=>hs x (bV _ hx)),
   MB hl hS (fun t' h'=>ht t' (ao _ h')) h2 (fun x hx=>hlt x (cF _ hx)) (fun x hx=>hs x (cF _ hx)),rfl⟩
theorem Oe {f:Func}{s:ChangeSpec}{W W':World}{args:Array Value}{tb:TypeId}{ds gs:List (DataW H)}{before:List MemPlace}(hv:s.vars=[]) (hr:f.resultTypes=#[tb]) (hb:P.underlying tb=some .bool) (hl:laidOutB P=true)
  (hts:∀t∈f.params.toList,P.readableRec t=true∧t<P.types.size) (hW:DataW.Whole enc P f.params.toList s.vars false W args.toList ds gs before) (hS:vL W W') (hfn:gs=[]→s.fn H (ds++gs)={results:=[.lit (.bool true)],args:=ds}):
  s.post enc P f false true false false W args (.bool true) W':=by
 have hlt:=hW.lt
 obtain⟨p,q,hA,hV,rfl,hfz,cR⟩:=id hW
 have hgq:gs=[]∧q=[]:=by
  rw[hv] at hV
  cases gs with
  | nil=>exact⟨rfl,hV⟩
  | cons _ _=>exact hV.elim
 obtain⟨rfl,rfl⟩:=hgq
 refine Hc (pa:=p) (pv:=[]) hW hS (fun _ _ _=>?_) (fun sp hsp=>?_) (fun sp hsp=>?_) rfl (ok_one hr rfl (okWide_bool_mk hb _))
 ·rw[hr,hfn rfl]
  exact trodAll_cons_mk (shut_bool hb _) trodAll_mk0
 ·rw[hfn rfl]
  exact MB hl hS hts hA (fun x hx=>hlt x (bV _ hx)) (fun x hx=>hsp x (bV _ hx))
 ·rw[hfn rfl,hv]
  rfl
end
end Go.AM
/-
 AM,part Zu:arguments of small bulk,opened.
-/
namespace Go.Proofs.Ytfkigaldejbeiaa.Up
open Go.AM
open Go.Proofs.Ytfkigaldejbeiaa.Rows (uptoBulk uptoBulkAll uptoSmall)
open Go.Deep
def vE {α:Type}(ok:α→Prop) (l:List α):Prop:=l.length≤1048576∧∀x∈l,ok x
theorem Pe {H:Type}(d:DataW H):1≤uptoBulk d:=by
 cases d with
 | lit l=>cases l <;> simp[uptoBulk]
 | _=>simp[uptoBulk]
theorem IN {H:Type}:∀l:List (DataW H),l.length≤uptoBulkAll l
 | []=>hZ _
 | d::r=>by
  have h1:=IN r
  have h2:=Pe d
  simp only[uptoBulkAll,bA]
  omega
theorem rr {H:Type}{d:DataW H}:∀{l:List (DataW H)},d∈l→uptoBulk d≤uptoBulkAll l
 | [],h=>by cases h
 | x::r,h=>by
  simp only[uptoBulkAll]
  rcases aZ.1 h with e | h
  ·subst e;omega
  ·have:=rr h;omega
def cN (P:Program) (t:TypeId) (α:Type) [aL α] (ok:α→Prop):Prop:=
 ∀{H:Type}(enc:TypeId×Value→H) (W:World) (base:Nat) (sp:Nat→Bool) (held:Bool) (aK:Nat) (cs:List Value) (x:DataW H×List MemPlace),
  DataW.trod enc P W base sp held aK t cs=some x→uptoBulk x.1≤1048576→∃a:α,ok a∧uB W (aL.cells a) cs
section
variable {P:Program}
theorem cN.of {t:TypeId}{α:Type}[aL α]{ok:α→Prop}(h:jf P t α ok):cN P t α ok:=fun enc W base sp held aK cs x hx _=>h enc W base sp held aK cs x hx
theorem cN.slice {t e:TypeId}{α:Type}[aL α]{ok:α→Prop}(ht:P.underlying t=some (.slice e)) (hc:P.cellsOf e=aL.sz α) (he:cN P e α ok):cN P t (List α) (vE ok):=fun enc W base sp held aK cs x h hu=>by
 rcases Go.Deep.open_slice ht h with ⟨rfl,_⟩ | ⟨a,len,cap,m,n,D,Pl,rfl,_,hl,hm,hmd,hxx,hel⟩
 ·exact⟨[],⟨hZ _,fun x hx=>by cases hx⟩,.one .nil⟩
 ·have hlm:len≤m:=by rw[hmd];split <;> omega
  rw[hxx] at hu
  have hB:uptoBulkAll ((List.range len).map D)+uptoBulkAll ((List.range (m-len)).map fun j=>D (len+j))+1≤1048576:=hu
  have hLB:len≤1048576:=by
   have:=IN ((List.range len).map D)
   simp only[aW,jq] at this
   omega
  have hDi:∀i,i<len→uptoBulk (D i)≤1048576:=fun i hi=>by
   have:=rr (jH (f:=D) (List.mem_range.2 hi))
   omega
  rcases fx len with h0 | h0
  ·subst h0
   exact⟨[],⟨hZ _,fun x hx=>by cases hx⟩,.one (.gQ a cap)⟩
  ·have hrow:∀i,i<len→∃(cs':List Value) (b:α),W.cells? base (a.add (i*aL.sz α)) (aL.sz α)=some cs'∧ok b∧uB W (aL.cells b) cs':=fun i hi=>by
    obtain⟨cs',h1,h2⟩:=hel i (by omega)
    obtain⟨b,h3,h4⟩:=he enc W base sp held n cs' _ h2 (hDi i (by omega))
    rw[hc] at h1
    exact⟨cs',b,h1,h3,h4⟩
   have hch:∃(l:List α) (rows:Nat→List Value),l.length=len∧∀i b,l[i]?=some b→W.cells? base (a.add (i*aL.sz α)) (aL.sz α)=some (rows i)∧ok b∧uB W (aL.cells b) (rows i):=by
    clear h hel hl hlm hmd h0 hxx hB hLB hDi hu
    induction len with
    | zero=>exact⟨[],fun _=>[],rfl,fun i b hb=>by cases hb⟩
    | succ k ih=>
     obtain⟨l,rows,h1,h2⟩:=ih (fun i hi=>hrow i (by omega))
     obtain⟨cs',b,h3,h4,h5⟩:=hrow k (by omega)
     refine⟨l++[b],fun i=>if i=k then cs' else rows i,by simp[h1],fun i b' hb=>?_⟩
     rw[a9] at hb
     split at hb
     ·rename_i hi
      have hne:i≠k:=by omega
      simp only[hne,if_false]
      exact h2 i b' hb
     ·rename_i hi
      have:i=k:=by
       have:=(al.1 hb).1
       simp at this;omega
      subst this
      rw[h1,pD] at hb
      cases hb
      simp only[if_true]
      exact⟨h3,h4,h5⟩
   obtain⟨l,rows,h1,h2⟩:=hch
   have hcell:∀(i:Nat) (b:α),l[i]?=some b→∀r,r<aL.sz α→W.cell? ((a.add (i*aL.sz α)).add r)=(rows i)[r]?∧(rows i).length=aL.sz α:=fun i b hb r hr=>by
    obtain⟨h3,_,h5⟩:=h2 i b hb
    obtain⟨_,h6,h7⟩:=World.cells?_some h3
    exact⟨h7 r hr,h6⟩
   have hfirst:∃v,W.cell? a=some v:=by
    obtain⟨b,hb⟩:∃b,l[0]?=some b:=⟨l[0]'(by omega),ag _⟩
    obtain⟨h3,h4⟩:=hcell 0 b hb 0 aL.pos
    have e:(a.add (0*aL.sz α)).add 0=a:=by simp[Addr.add]
    rw[e] at h3
    exact⟨_,h3.trans (ag (by rw[h4];exact aL.pos))⟩
   obtain⟨v0,hv0⟩:=hfirst
   have hblk:a.spot=none∧a.block<W.heap.size:=by
    unfold World.cell? at hv0
    split at hv0
    ·rename_i c _ _ hb
     split at hv0
     ·cases hv0
     ·rename_i hs
      exact⟨by simpa using hs,(fX.1 hb).1⟩
    ·cases hv0
   obtain⟨b,off,spot⟩:=a
   obtain⟨rfl,hb⟩:=hblk
   simp only[Addr.iY] at hcell
   refine⟨l,⟨by rw[h1];exact hLB,fun x hx=>?_⟩,.one ?_⟩
   ·obtain⟨i,hi⟩:=bR hx
    exact(h2 i x hi).2.1
   ·rw[←h1]
    refine .sl l.length (c8 l) b off cap (fun j=>(W.cell? ⟨b,off+j,none⟩).getD undef) (by omega) (fun h=>h) hb (fun j hj=>?_) (fun j g hg=>?_)
    ·rw[eT] at hj
     have hi:j/aL.sz α<l.length:=mQ (by rwa[jM] at hj)
     have hr:j%aL.sz α<aL.sz α:=mP _ aL.pos
     obtain⟨h3,h4⟩:=hcell (j/aL.sz α) _ (ag hi) _ hr
     have e:off+j/aL.sz α*aL.sz α+j%aL.sz α=off+j:=by
      have:=Nat.div_add_mod j (aL.sz α)
      rw[jM] at this
      omega
     rw[e] at h3
     rw[h3,ag (by omega)]
     rfl
    ·have hj:=(al.1 hg).1
     rw[eT] at hj
     have hi:j/aL.sz α<l.length:=mQ (by rwa[jM] at hj)
     have hr:j%aL.sz α<aL.sz α:=mP _ aL.pos
     obtain⟨h3,h4⟩:=hcell (j/aL.sz α) _ (ag hi) _ hr
     obtain⟨_,_,h5⟩:=h2 _ _ (ag hi)
     have e:off+j/aL.sz α*aL.sz α+j%aL.sz α=off+j:=by
      have:=Nat.div_add_mod j (aL.sz α)
      rw[jM] at this
      omega
     rw[e] at h3
     have hge:=oZ (ag hi) hr
     have e2:j/aL.sz α*aL.sz α+j%aL.sz α=j:=by omega
     rw[e2,hg] at hge
     have hv:=ag (l:=rows (j/aL.sz α)) (i:=j%aL.sz α) (by omega)
     rw[h3,hv]
     exact h5.2 _ _ _ hge.symm hv
theorem cN.field {H:Type}{enc:TypeId×Value→H}{W:World}{base:Nat}{sp:Nat→Bool}{held:Bool}{n:Nat}{cs:List Value}{xs:List (DataW H×List MemPlace)}{fs:Array Field}{α:Type}[aL α]{ok:α→Prop}
  (hlen:xs.length=fs.size) (hf:∀(i:Nat) (f:Field),fs[i]?=some f→DataW.trod enc P W base sp held n f.type ((cs.drop f.offset).take (P.cellsOf f.type))=xs[i]?) (i:Nat){f:Field}(hi:fs[i]?=some f) (he:cN P f.type α ok) (hub:uptoBulkAll (xs.map (·.1))≤1048576):
  ∃a:α,ok a∧qv W (aL.cells a) cs f.offset:=by
 have h1:=hf i f hi
 have hl:i<xs.length:=by rw[hlen];exact(fX.1 hi).1
 rw[ag hl] at h1
 obtain⟨a,h2,h3⟩:=he enc W base sp held n _ _ h1 (cB (rr (jH (dE hl))) hub)
 exact⟨a,h2,h3.at⟩
theorem IS {H:Type}{enc:TypeId×Value→H}{W:World}{b0 base:Nat}{sp:Nat→Bool}{held:Bool}{r:Reach}{t:TypeId}{v:Value}{d:DataW H}{ps:List MemPlace}{α:Type}[aL α]{ok:α→Prop}(he:cN P t α ok)
  (hn:∀fs,P.underlying t≠some (.struct fs)) (hn':∀m e,P.underlying t≠some (.array m e)) (hval:Value.okWide P W r b0 t v) (hd:DataW.Trod enc P W base sp held t v d ps) (hub:uptoBulk d≤1048576):∃a:α,ok a∧∀g,aL.cells a=[g]→Arg W g v:=by
 obtain⟨aK,hf⟩:=hd
 obtain⟨a,h1,h2⟩:=he enc W base sp held aK _ _ hf hub
 refine⟨a,h1,fun g hg=>?_⟩
 have hc:v.cells=#[v]:=by
  unfold Value.okWide at hval
  split at hval
  ·rename_i fs h;exact absurd h (hn fs)
  ·rename_i m e h;exact absurd h (hn' m e)
  ·cases v with
   | agg cs=>
    exfalso
    revert hval
    unfold Cell.okWide Cell.ok
    cases P.underlying t with
    | none=>exact fun h=>h
    | some dsc=>cases dsc <;> exact fun h=>h
   | _=>rfl
 rw[hg,hc] at h2
 exact h2.2 0 g v rfl rfl
theorem Pp {H:Type}{enc:TypeId×Value→H}{W:World}{b0 base:Nat}{sp:Nat→Bool}{held:Bool}{r:Reach}{t:TypeId}{v:Value}{d:DataW H}{ps:List MemPlace}{α:Type}[aL α]{ok:α→Prop}{fs:Array Field}(he:cN P t α ok)
  (ht:P.underlying t=some (.struct fs)) (hval:Value.okWide P W r b0 t v) (hd:DataW.Trod enc P W base sp held t v d ps) (hub:uptoBulk d≤1048576):∃a:α,ok a∧Arg W (.agg (aL.cells a)) v:=by
 obtain⟨aK,hf⟩:=hd
 obtain⟨a,h1,h2⟩:=he enc W base sp held aK _ _ hf hub
 refine⟨a,h1,?_⟩
 unfold Value.okWide at hval
 rw[ht] at hval
 obtain⟨cs,rfl,_⟩:=hval
 exact .agg _ cs.toList h2.1 fun j g v hg hv=>h2.2 j g v hg hv
end
end Go.Proofs.Ytfkigaldejbeiaa.Up
