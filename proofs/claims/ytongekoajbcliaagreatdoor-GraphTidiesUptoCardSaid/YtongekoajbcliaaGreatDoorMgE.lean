/-
  From a eV to what a row asks.
-/
import Derived.Test.YtongekoajbcliaaGreatDoorMgB
import Derived.Test.YtongekoajbcliaaGreatDoorRows
import Derived.WalkKit
import Derived.ProofKit
import Derived.OpenShut
import Derived.JoinedCond
import Derived.Deep.Slices
import Derived.WideKeyArgs
set_option linter.unusedSectionVars false
set_option linter.unusedSimpArgs false
set_option linter.unusedVariables false
/-
 AM,part Z:from a eV to what a row asks.
-/
namespace Go.AM
structure yx (W W':World):Prop where
 os:W'.os=W.os
 output:W'.output=W.output
 size:W.heap.size≤W'.heap.size
 heap:∀b,b<W.heap.size→W'.heap[b]?=W.heap[b]?
theorem yx.frame {W W':World}(h:yx W W') (may:MemPlace→Prop):W.keptBut W' may:=by
 refine⟨h.os,h.output,fun i hi=>?_⟩;rw[h.heap i hi];cases W.heap[i]? with
 | none=>exact rfl
 | some o=>cases o <;> first | exact⟨rfl,rfl,rfl,fun _ _=>rfl⟩ | exact .inr ⟨rfl,rfl⟩ | exact rfl
theorem RY (W:World) (μ:Mu) (hgl:IZ (fun _=>False) W.heap.size W):cI (jc (fun _=>False) [] μ W) μ [] W where
 gl:=fun p hp=>⟨(hgl p hp).1,fun (ha:Own [] μ p.1)=>oH ha,(hgl p hp).2.2⟩
 en:=fun h k hk=>by cases hk
 de:=fun h h' k k' y b m b' m' hk=>by cases hk
 cq:=fun h k b m y hk=>by cases hk
 fD:=fun h k hk=>by cases hk
 fg:=fun b hb=>hb.elim
 hb:=aG _
 os:=rfl
 tape:=rfl
 output:=rfl
 dq:=fun _ _ _=>rfl
def Arg (W:World) (g:G) (v:Value):Prop:=bH (fun _=>False) W g v
theorem GM.calls {P:Program}{f:FuncId}{args:List G}{x:Value}(h:GM P f args [] (fun g st=>g=.val x∧st=[])) (W:World) (vs:List Value) (hl:vs.length=args.length)
  (ha:∀(j:Nat) (g:G) (v:Value),args[j]?=some g→vs[j]?=some v→Arg W g v) (hgl:IZ (fun _=>False) W.heap.size W:=by intro _ h;cases h):Calls P f vs.toArray W fun e W'=>e=.returned x∧yx W W':=by
 refine(h.returned (fun _=>False) (fun _=>none) W vs (fun _ h=>h.elim) (RY W _ hgl) hl (fun j g v hg hv=>.aF ((ha j g v hg hv).mono (Kept.refl _ _) fun b _ _ ho=>?_))).mono fun e W' hp=>?_
 ·rcases ho with ho | ⟨h,k,c,m,hk,_⟩
  ·exact ho
  ·cases hk
 ·obtain⟨v,r,st',μ',rfl,⟨rfl,rfl⟩,hr,hv⟩:=hp;cases hv with
  | aF hv=>cases hv with
   | val=>exact⟨rfl,hr.os,hr.output,hr.hb,fun b hb=>hr.dq b hb fun ⟨h,k,c,m,hk,_⟩=>by cases hk⟩
section
variable {H:Type}{gB:TypeId×Value→H}{P:Program}
open Go.ChangeShapes Go.WideShapes Go.ChangeAt Go.RowKit
theorem yx.frozen {W W':World}(h:yx W W') (a:Addr) (ha:a.block<W.heap.size):W'.frozen? a=W.frozen? a:=by
 unfold World.frozen?;rw[h.heap _ ha]
theorem LJ {f:Func}{s:ChangeSpec}{apart fresh handsOn again:Bool}{W W':World}{args:Array Value}{v:Value}{ds gs:List (DataW H)}{before pa pv:List MemPlace}
  (hW:DataW.Whole gB P f.params.toList s.vars apart W args.toList ds gs before) (hS:yx W W')
  (hres:∀(b:Nat) (sp:Nat→Bool) (hd:Bool),DataW.TrodAll gB P W' b sp hd f.resultTypes.toList (v.resultList f.resultTypes.size) (s.fn H (ds++gs)).results [])
  (hargs:∀sp:Nat→Bool,(∀p∈before,sp p.block=true)→DataW.TrodAll gB P W' 0 sp true f.params.toList args.toList (s.fn H (ds++gs)).args pa)
  (hvars:∀sp:Nat→Bool,(∀p∈before,sp p.block=true)→DataW.TrodVars gB P W' sp s.vars (s.fn H (ds++gs)).vars pv)
  (hps:before=pa++pv)
  (hok:∀(j:Nat) (t:TypeId) (r:Value),f.resultTypes[j]?=some t→(v.resultList f.resultTypes.size)[j]?=some r→Value.okWide P W' .any 0 t r):
  s.post gB P f apart fresh handsOn again W args v W':=by
 have hlt:=hW.lt;have hold:∀p∈before,(fun b=>decide (b<W.heap.size)) p.block=true:=fun p hp=>by simpa using hlt p hp
 obtain⟨_,_,_,_,_,hz,hn⟩:=id hW;subst hps;refine⟨ds,gs,pa++pv,[],pa,pv,hW,hres _ _ _,hargs _ hold,hvars _ hold,World.keptBut_mono (fun p hp=>⟨hp,.inr (by simpa using hp)⟩) (hS.frame _),fun _=>⟨hok,_,_,([]++pa)++pv,⟨[]++pa,pv,trodAll_append (hargs _ (fun _ _=>rfl)) (hres _ _ _),hvars _ (fun _ _=>rfl),rfl,?_,?_⟩,?_⟩⟩
 ·intro b off hp;have hp':MemPlace.cell b off∈pa++pv:=by simpa using hp
  rw[hS.frozen _ (hlt _ hp')];exact hz b off hp'
 ·intro ha;simpa using hn ha
 ·intro p hp _;simpa using hp
end
def wO (W:World) (gs:List G) (cs:List Value):Prop:=cs.length=gs.length∧∀(j:Nat) (g:G) (v:Value),gs[j]?=some g→cs[j]?=some v→Arg W g v
def ou (P:Program) (t:TypeId) (α:Type) [aH α] (ok:α→Prop):Prop:=
 ∀{H:Type}(gB:TypeId×Value→H) (W:World) (base:Nat) (sp:Nat→Bool) (held:Bool) (bG:Nat) (cs:List Value) (x:DataW H×List MemPlace),
  DataW.trod gB P W base sp held bG t cs=some x→∃a:α,ok a∧wO W (aH.cells a) cs
theorem wO.one {W:World}{g:G}{v:Value}(h:Arg W g v):wO W [g] [v]:=by
 refine⟨rfl,fun j g' v' hg hv=>?_⟩
 match j with
 | 0=>cases hg;cases hv;exact h
 | j+1=>cases hg
section
variable {P:Program}
theorem ou.int {t:TypeId}(ht:P.underlying t=some (.int .i64)):ou P t Int BZ:=fun gB W base sp held bG cs x h=>by
 obtain⟨n,rfl,_,hw⟩:=DataW.trod_int ht h;refine⟨n,?_,.one (.val _)⟩;simpa[BZ,Lit.wf,IntKind.min,IntKind.max,IntKind.signed,IntKind.bits] using hw
theorem ou.slice {t e:TypeId}{α:Type}[aH α]{ok:α→Prop}(ht:P.underlying t=some (.slice e)) (hc:P.cellsOf e=aH.sz α) (he:ou P e α ok):ou P t (List α) (aaz ok):=fun gB W base sp held bG cs x h=>by
 rcases Go.Deep.open_slice ht h with ⟨rfl,_⟩ | ⟨a,len,cap,m,n,D,Pl,rfl,_,hl,hm,hmd,hxx,hel⟩
 ·exact⟨[],⟨iV _,fun x hx=>by cases hx⟩,.one .nil⟩
 ·have hlm:len≤m:=by rw[hmd];split <;> omega
  rcases jP len with h0 | h0
  ·subst h0;exact⟨[],⟨iV _,fun x hx=>by cases hx⟩,.one (.jb a cap)⟩
  ·have hrow:∀i,i<len→∃(cs':List Value) (b:α),W.cells? base (a.add (i*aH.sz α)) (aH.sz α)=some cs'∧ok b∧wO W (aH.cells b) cs':=fun i hi=>by
    obtain⟨cs',h1,h2⟩:=hel i (by omega);obtain⟨b,h3,h4⟩:=he gB W base sp held n cs' _ h2;rw[hc] at h1;exact⟨cs',b,h1,h3,h4⟩
   have hch:∃(l:List α) (rows:Nat→List Value),l.length=len∧∀i b,l[i]?=some b→W.cells? base (a.add (i*aH.sz α)) (aH.sz α)=some (rows i)∧ok b∧wO W (aH.cells b) (rows i):=by
    clear h hel hl hlm hmd h0 hxx
    induction len with
    | zero=>exact⟨[],fun _=>[],rfl,fun i b hb=>by cases hb⟩
    | succ k ih=>
     obtain⟨l,rows,h1,h2⟩:=ih (fun i hi=>hrow i (by omega));obtain⟨cs',b,h3,h4,h5⟩:=hrow k (by omega);refine⟨l++[b],fun i=>if i=k then cs' else rows i,by simp[h1],fun i b' hb=>?_⟩;rw[bS] at hb;split at hb
     ·rename_i hi;have hne:i≠k:=by omega
      simp only[hne,if_false];exact h2 i b' hb
     ·rename_i hi;have:i=k:=by
       have:=(ai.1 hb).1;simp at this;omega
      subst this;rw[h1,Nat.sub_self] at hb;cases hb;simp only[if_true];exact⟨h3,h4,h5⟩
   obtain⟨l,rows,h1,h2⟩:=hch;have hcell:∀(i:Nat) (b:α),l[i]?=some b→∀r,r<aH.sz α→W.cell? ((a.add (i*aH.sz α)).add r)=(rows i)[r]?∧(rows i).length=aH.sz α:=fun i b hb r hr=>by
    obtain⟨h3,_,h5⟩:=h2 i b hb;obtain⟨_,h6,h7⟩:=World.cells?_some h3;exact⟨h7 r hr,h6⟩
   have hfirst:∃v,W.cell? a=some v:=by
    obtain⟨b,hb⟩:∃b,l[0]?=some b:=⟨l[0]'(by omega),ag _⟩;obtain⟨h3,h4⟩:=hcell 0 b hb 0 aH.pos;have e:(a.add (0*aH.sz α)).add 0=a:=by simp[Addr.add]
    rw[e] at h3;exact⟨_,h3.trans (ag (by rw[h4];exact aH.pos))⟩
   obtain⟨v0,hv0⟩:=hfirst;have hblk:a.spot=none∧a.block<W.heap.size:=by
    unfold World.cell? at hv0;split at hv0
    ·rename_i c _ _ hb;split at hv0
     ·cases hv0
     ·rename_i hs;exact⟨by simpa using hs,(gX.1 hb).1⟩
    ·cases hv0
   obtain⟨b,off,spot⟩:=a;obtain⟨rfl,hb⟩:=hblk;simp only[Addr.lz] at hcell;refine⟨l,⟨by rw[h1];simp only[maxLen] at hm;omega,fun x hx=>?_⟩,.one ?_⟩
   ·obtain⟨i,hi⟩:=cA hx;exact(h2 i x hi).2.1
   ·rw[←h1];refine .sl l.length (cr l) b off cap (fun j=>(W.cell? ⟨b,off+j,none⟩).getD undef) (by omega) (fun h=>h) hb (fun j hj=>?_) (fun j g hg=>?_)
    ·rw[fG] at hj;have hi:j/aH.sz α<l.length:=ph (by rwa[kV] at hj);have hr:j%aH.sz α<aH.sz α:=Nat.mod_lt _ aH.pos;obtain⟨h3,h4⟩:=hcell (j/aH.sz α) _ (ag hi) _ hr;have e:off+j/aH.sz α*aH.sz α+j%aH.sz α=off+j:=by
      have:=Nat.div_add_mod j (aH.sz α);rw[kV] at this;omega
     rw[e] at h3;rw[h3,ag (by omega)];rfl
    ·have hj:=(ai.1 hg).1;rw[fG] at hj;have hi:j/aH.sz α<l.length:=ph (by rwa[kV] at hj);have hr:j%aH.sz α<aH.sz α:=Nat.mod_lt _ aH.pos;obtain⟨h3,h4⟩:=hcell (j/aH.sz α) _ (ag hi) _ hr;obtain⟨_,_,h5⟩:=h2 _ _ (ag hi);have e:off+j/aH.sz α*aH.sz α+j%aH.sz α=off+j:=by
      have:=Nat.div_add_mod j (aH.sz α);rw[kV] at this;omega
     rw[e] at h3;have hge:=re (ag hi) hr;have e2:j/aH.sz α*aH.sz α+j%aH.sz α=j:=by omega
     rw[e2,hg] at hge;have hv:=ag (l:=rows (j/aH.sz α)) (i:=j%aH.sz α) (by omega);rw[h3,hv];exact h5.2 _ _ _ hge.symm hv
def uJ (W:World) (gs:List G) (cs:List Value) (off:Nat):Prop:=∀(j:Nat) (g:G),gs[j]?=some g→∃v,cs[off+j]?=some v∧Arg W g v
theorem wO.at {W:World}{gs:List G}{cs:List Value}{off sz:Nat}(h:wO W gs ((cs.drop off).take sz)):uJ W gs cs off:=fun j g hg=>by
 have hj:=(ai.1 hg).1;rw[←h.1] at hj;have hv:=ag hj;refine⟨_,?_,h.2 j g _ hg hv⟩;rw[bo] at hv;split at hv
 ·rw[bE] at hv;exact hv
 ·cases hv
theorem uJ.append {W:World}{g1 g2:List G}{cs:List Value}{off off2:Nat}(h1:uJ W g1 cs off) (ho:off2=off+g1.length) (h2:uJ W g2 cs off2):uJ W (g1++g2) cs off:=fun j g hg=>by
 rw[bS] at hg;split at hg
 ·exact h1 j g hg
 ·rename_i hj;obtain⟨v,hv,hr⟩:=h2 _ g hg;exact⟨v,by rw[←hv,ho];congr 1;omega,hr⟩
theorem uJ.all {W:World}{gs:List G}{cs:List Value}(h:uJ W gs cs 0) (hl:cs.length=gs.length):wO W gs cs:=⟨hl,fun j g v hg hv=>by
 obtain⟨v',h1,h2⟩:=h j g hg;rw[da,hv] at h1;cases h1;exact h2⟩
end
section
variable {H:Type}{gB:TypeId×Value→H}{P:Program}
open Go.ChangeShapes Go.WideShapes Go.ChangeAt Go.RowKit
theorem yx.at {W W':World}(h:yx W W') (p:MemPlace) (hp:p.block<W.heap.size):W.sameAt W' p:=by
 cases p with
 | cell b off=>exact World.cell?_of_block (h.heap b hp)
 | map b=>exact h.heap b hp
theorem RU {W W':World}(hl:laidOutB P=true) (hS:yx W W'):∀{ts:List TypeId}{vs:List Value}{ds:List (DataW H)}{ps:List MemPlace}{sp:Nat→Bool},(∀t∈ts,P.readableRec t=true∧t<P.types.size)→
  DataW.TrodAll gB P W 0 (fun _=>true) true ts vs ds ps→(∀p∈ps,p.block<W.heap.size)→(∀p∈ps,sp p.block=true)→DataW.TrodAll gB P W' 0 sp true ts vs ds ps
 | [],[],[],_,_,_,h,_,_=>h
 | t::ts,v::vs,d::ds,_,sp,ht,⟨p,q,h1,h2,e⟩,hlt,hs=>by
  subst e;obtain⟨h3,h4⟩:=ht t (ar ..);exact⟨p,q,Go.WideElems.Trod_stays hl h3 h4 h1 (fun x hx=>hS.at x (hlt x (bY _ hx))) (fun x hx=>hs x (bY _ hx)),
   RU hl hS (fun t' h'=>ht t' (ap _ h')) h2 (fun x hx=>hlt x (ct _ hx)) (fun x hx=>hs x (ct _ hx)),rfl⟩
theorem Ul {f:Func}{s:ChangeSpec}{W W':World}{args:Array Value}{tb:TypeId}{ds gs:List (DataW H)}{before:List MemPlace}(hv:s.vars=[]) (hr:f.resultTypes=#[tb]) (hb:P.underlying tb=some .bool) (hl:laidOutB P=true)
  (hts:∀t∈f.params.toList,P.readableRec t=true∧t<P.types.size) (hW:DataW.Whole gB P f.params.toList s.vars false W args.toList ds gs before) (hS:yx W W') (hfn:gs=[]→s.fn H (ds++gs)={results:=[.lit (.bool true)],args:=ds}):
  s.post gB P f false true false false W args (.bool true) W':=by
 have hlt:=hW.lt;obtain⟨p,q,hA,hV,rfl,hfz,di⟩:=id hW;have hgq:gs=[]∧q=[]:=by
  rw[hv] at hV;cases gs with
  | nil=>exact⟨rfl,hV⟩
  | cons _ _=>exact hV.elim
 obtain⟨rfl,rfl⟩:=hgq;refine LJ (pa:=p) (pv:=[]) hW hS (fun _ _ _=>?_) (fun sp hsp=>?_) (fun sp hsp=>?_) rfl (ok_one hr rfl (okWide_bool_mk hb _))
 ·rw[hr,hfn rfl];exact trodAll_cons_mk (shut_bool hb _) trodAll_mk0
 ·rw[hfn rfl];exact RU hl hS hts hA (fun x hx=>hlt x (bY _ hx)) (fun x hx=>hsp x (bY _ hx))
 ·rw[hfn rfl,hv];rfl
end
end Go.AM
/-
 AM,part Zu:arguments of small bulk,opened.
-/
namespace Go.Proofs.YtongekoajbcliaaGreatDoor.Up
open Go.AM
open Go.Proofs.YtongekoajbcliaaGreatDoor.Rows (uptoBulk uptoBulkAll uptoSmall)
open Go.Deep
def zL {α:Type}(ok:α→Prop) (l:List α):Prop:=l.length≤1048576∧∀x∈l,ok x
theorem VN {H:Type}(d:DataW H):1≤uptoBulk d:=by
 cases d with
 | lit l=>cases l <;> simp[uptoBulk]
 | _=>simp[uptoBulk]
theorem Ns {H:Type}:∀l:List (DataW H),l.length≤uptoBulkAll l
 | []=>iV _
 | d::r=>by
  have h1:=Ns r;have h2:=VN d;simp only[uptoBulkAll,bL];omega
theorem AR {H:Type}{d:DataW H}:∀{l:List (DataW H)},d∈l→uptoBulk d≤uptoBulkAll l
 | [],h=>by cases h
 | x::r,h=>by
  simp only[uptoBulkAll];rcases bf.1 h with e | h
  ·subst e;omega
  ·have:=AR h;omega
def dS (P:Program) (t:TypeId) (α:Type) [aH α] (ok:α→Prop):Prop:=
 ∀{H:Type}(gB:TypeId×Value→H) (W:World) (base:Nat) (sp:Nat→Bool) (held:Bool) (bG:Nat) (cs:List Value) (x:DataW H×List MemPlace),
  DataW.trod gB P W base sp held bG t cs=some x→uptoBulk x.1≤1048576→∃a:α,ok a∧wO W (aH.cells a) cs
section
variable {P:Program}
theorem dS.of {t:TypeId}{α:Type}[aH α]{ok:α→Prop}(h:ou P t α ok):dS P t α ok:=fun gB W base sp held bG cs x hx _=>h gB W base sp held bG cs x hx
theorem dS.slice {t e:TypeId}{α:Type}[aH α]{ok:α→Prop}(ht:P.underlying t=some (.slice e)) (hc:P.cellsOf e=aH.sz α) (he:dS P e α ok):dS P t (List α) (zL ok):=fun gB W base sp held bG cs x h hu=>by
 rcases Go.Deep.open_slice ht h with ⟨rfl,_⟩ | ⟨a,len,cap,m,n,D,Pl,rfl,_,hl,hm,hmd,hxx,hel⟩
 ·exact⟨[],⟨iV _,fun x hx=>by cases hx⟩,.one .nil⟩
 ·have hlm:len≤m:=by rw[hmd];split <;> omega
  rw[hxx] at hu;have hB:uptoBulkAll ((List.range len).map D)+uptoBulkAll ((List.range (m-len)).map fun j=>D (len+j))+1≤1048576:=hu;have hLB:len≤1048576:=by
   have:=Ns ((List.range len).map D);simp only[aN,jm] at this;omega
  have hDi:∀i,i<len→uptoBulk (D i)≤1048576:=fun i hi=>by
   have:=AR (kQ (f:=D) (gx.2 hi));omega
  rcases jP len with h0 | h0
  ·subst h0;exact⟨[],⟨iV _,fun x hx=>by cases hx⟩,.one (.jb a cap)⟩
  ·have hrow:∀i,i<len→∃(cs':List Value) (b:α),W.cells? base (a.add (i*aH.sz α)) (aH.sz α)=some cs'∧ok b∧wO W (aH.cells b) cs':=fun i hi=>by
    obtain⟨cs',h1,h2⟩:=hel i (by omega);obtain⟨b,h3,h4⟩:=he gB W base sp held n cs' _ h2 (hDi i (by omega));rw[hc] at h1;exact⟨cs',b,h1,h3,h4⟩
   have hch:∃(l:List α) (rows:Nat→List Value),l.length=len∧∀i b,l[i]?=some b→W.cells? base (a.add (i*aH.sz α)) (aH.sz α)=some (rows i)∧ok b∧wO W (aH.cells b) (rows i):=by
    clear h hel hl hlm hmd h0 hxx hB hLB hDi hu
    induction len with
    | zero=>exact⟨[],fun _=>[],rfl,fun i b hb=>by cases hb⟩
    | succ k ih=>
     obtain⟨l,rows,h1,h2⟩:=ih (fun i hi=>hrow i (by omega));obtain⟨cs',b,h3,h4,h5⟩:=hrow k (by omega);refine⟨l++[b],fun i=>if i=k then cs' else rows i,by simp[h1],fun i b' hb=>?_⟩;rw[bS] at hb;split at hb
     ·rename_i hi;have hne:i≠k:=by omega
      simp only[hne,if_false];exact h2 i b' hb
     ·rename_i hi;have:i=k:=by
       have:=(ai.1 hb).1;simp at this;omega
      subst this;rw[h1,Nat.sub_self] at hb;cases hb;simp only[if_true];exact⟨h3,h4,h5⟩
   obtain⟨l,rows,h1,h2⟩:=hch;have hcell:∀(i:Nat) (b:α),l[i]?=some b→∀r,r<aH.sz α→W.cell? ((a.add (i*aH.sz α)).add r)=(rows i)[r]?∧(rows i).length=aH.sz α:=fun i b hb r hr=>by
    obtain⟨h3,_,h5⟩:=h2 i b hb;obtain⟨_,h6,h7⟩:=World.cells?_some h3;exact⟨h7 r hr,h6⟩
   have hfirst:∃v,W.cell? a=some v:=by
    obtain⟨b,hb⟩:∃b,l[0]?=some b:=⟨l[0]'(by omega),ag _⟩;obtain⟨h3,h4⟩:=hcell 0 b hb 0 aH.pos;have e:(a.add (0*aH.sz α)).add 0=a:=by simp[Addr.add]
    rw[e] at h3;exact⟨_,h3.trans (ag (by rw[h4];exact aH.pos))⟩
   obtain⟨v0,hv0⟩:=hfirst;have hblk:a.spot=none∧a.block<W.heap.size:=by
    unfold World.cell? at hv0;split at hv0
    ·rename_i c _ _ hb;split at hv0
     ·cases hv0
     ·rename_i hs;exact⟨by simpa using hs,(gX.1 hb).1⟩
    ·cases hv0
   obtain⟨b,off,spot⟩:=a;obtain⟨rfl,hb⟩:=hblk;simp only[Addr.lz] at hcell;refine⟨l,⟨by rw[h1];exact hLB,fun x hx=>?_⟩,.one ?_⟩
   ·obtain⟨i,hi⟩:=cA hx;exact(h2 i x hi).2.1
   ·rw[←h1];refine .sl l.length (cr l) b off cap (fun j=>(W.cell? ⟨b,off+j,none⟩).getD undef) (by omega) (fun h=>h) hb (fun j hj=>?_) (fun j g hg=>?_)
    ·rw[fG] at hj;have hi:j/aH.sz α<l.length:=ph (by rwa[kV] at hj);have hr:j%aH.sz α<aH.sz α:=Nat.mod_lt _ aH.pos;obtain⟨h3,h4⟩:=hcell (j/aH.sz α) _ (ag hi) _ hr;have e:off+j/aH.sz α*aH.sz α+j%aH.sz α=off+j:=by
      have:=Nat.div_add_mod j (aH.sz α);rw[kV] at this;omega
     rw[e] at h3;rw[h3,ag (by omega)];rfl
    ·have hj:=(ai.1 hg).1;rw[fG] at hj;have hi:j/aH.sz α<l.length:=ph (by rwa[kV] at hj);have hr:j%aH.sz α<aH.sz α:=Nat.mod_lt _ aH.pos;obtain⟨h3,h4⟩:=hcell (j/aH.sz α) _ (ag hi) _ hr;obtain⟨_,_,h5⟩:=h2 _ _ (ag hi);have e:off+j/aH.sz α*aH.sz α+j%aH.sz α=off+j:=by
      have:=Nat.div_add_mod j (aH.sz α);rw[kV] at this;omega
     rw[e] at h3;have hge:=re (ag hi) hr;have e2:j/aH.sz α*aH.sz α+j%aH.sz α=j:=by omega
     rw[e2,hg] at hge;have hv:=ag (l:=rows (j/aH.sz α)) (i:=j%aH.sz α) (by omega);rw[h3,hv];exact h5.2 _ _ _ hge.symm hv
theorem dS.field {H:Type}{gB:TypeId×Value→H}{W:World}{base:Nat}{sp:Nat→Bool}{held:Bool}{n:Nat}{cs:List Value}{xs:List (DataW H×List MemPlace)}{fs:Array Field}{α:Type}[aH α]{ok:α→Prop}
  (hlen:xs.length=fs.size) (hf:∀(i:Nat) (f:Field),fs[i]?=some f→DataW.trod gB P W base sp held n f.type ((cs.drop f.offset).take (P.cellsOf f.type))=xs[i]?) (i:Nat){f:Field}(hi:fs[i]?=some f) (he:dS P f.type α ok) (hub:uptoBulkAll (xs.map (·.1))≤1048576):
  ∃a:α,ok a∧uJ W (aH.cells a) cs f.offset:=by
 have h1:=hf i f hi;have hl:i<xs.length:=by rw[hlen];exact(gX.1 hi).1
 rw[ag hl] at h1;obtain⟨a,h2,h3⟩:=he gB W base sp held n _ _ h1 (cK (AR (kQ (fQ hl))) hub);exact⟨a,h2,h3.at⟩
theorem VX {H:Type}{gB:TypeId×Value→H}{W:World}{b0 base:Nat}{sp:Nat→Bool}{held:Bool}{r:Reach}{t:TypeId}{v:Value}{d:DataW H}{ps:List MemPlace}{α:Type}[aH α]{ok:α→Prop}{fs:Array Field}(he:dS P t α ok)
  (ht:P.underlying t=some (.struct fs)) (hval:Value.okWide P W r b0 t v) (hd:DataW.Trod gB P W base sp held t v d ps) (hub:uptoBulk d≤1048576):∃a:α,ok a∧Arg W (.agg (aH.cells a)) v:=by
 obtain⟨bG,hf⟩:=hd;obtain⟨a,h1,h2⟩:=he gB W base sp held bG _ _ hf hub;refine⟨a,h1,?_⟩;unfold Value.okWide at hval;rw[ht] at hval;obtain⟨cs,rfl,_⟩:=hval;exact .agg _ cs.toList h2.1 fun j g v hg hv=>h2.2 j g v hg hv
end
end Go.Proofs.YtongekoajbcliaaGreatDoor.Up
/-
 AM,part Zw:arguments of small bulk,opened,with what they weigh (for types that hold themselves).
-/
namespace Go.Proofs.YtongekoajbcliaaGreatDoor.Up
open Go.AM
open Go.Proofs.YtongekoajbcliaaGreatDoor.Rows (uptoBulk uptoBulkAll uptoSmall)
open Go.Deep
section
variable {P:Program}
end
end Go.Proofs.YtongekoajbcliaaGreatDoor.Up
