/-
  DN, fourth part.
-/
import Derived.Test.YtaobkpnecfcefaaDoorMgD
import Derived.KernelRfl
import Derived.Test.YtaobkpnecfcefaaDoorMgI
set_option linter.unusedSectionVars false
set_option linter.unusedSimpArgs false
set_option linter.unusedVariables false
/-
 DN,part Vb:a call whose arguments all lead to what the caller's call has made:so does its answer.
-/
namespace Go.DN
open Go.AM
def freG:G→Bool
 | .val _=>true
 | .ifc _=>true
 | .fr _=>true
 | .agg gs=>go gs
 | .clo _ gs=>go gs
 | _=>false
where go:List G→Bool
 | []=>true
 | g::r=>freG g&&go r
theorem freG_mem:∀{gs:List G},freG.go gs=true→∀(j:Nat) (g:G),gs[j]?=some g→freG g=true
 | [],_,j,g,hg=>by simp at hg
 | x::r,h,j,g,hg=>by
  simp only[freG.go,Bool.and_eq_true] at h
  cases j with
  | zero=>cases hg;exact h.1
  | succ j=>exact freG_mem h.2 j g hg
def upG:G→G
 | .val v=>.val v
 | .ifc b=>.fr (.ifc b)
 | .sl n cs=>.fr (.sl n cs)
 | .ptr cs=>.fr (.ptr cs)
 | .agg gs=>.agg (go gs)
 | .tup gs=>.tup (go gs)
 | .clo f gs=>.clo f (go gs)
 | g=>g
where go:List G→List G
 | []=>[]
 | g::r=>upG g::go r
theorem upG_len:∀(gs:List G),(upG.go gs).length=gs.length
 | []=>rfl
 | _::r=>congrArg (·+1) (upG_len r)
theorem upG_at:∀{gs:List G}{j:Nat}{g':G},(upG.go gs)[j]?=some g'→∃g,gs[j]?=some g∧g'=upG g
 | [],_,_,h=>by simp[upG.go] at h
 | x::r,j,g',h=>by
  cases j with
  | zero=>simp only[upG.go,List.getElem?_cons_zero,Option.some.injEq] at h;exact⟨x,rfl,h.symm⟩
  | succ j=>exact upG_at (gs:=r) (by simpa[upG.go] using h)
theorem freI_spec {O X:Nat→Prop}{base:Nat}{μ μ':Mu}{w:World}{g g':G}{v:Value}(h:RepI O w g v) (hX:∀b,X b→b<w.heap.size→Old O base b) (hg:freG g=true) (hf:viewI g=some g'):RepV X w.heap.size w μ' g' v:=by
 induction h generalizing g' with
 | any v=>cases hg
 | val v=>
  cases hf
  unfold viewV
  split
  ·exact .imm .nil
  ·exact .imm (.val _)
 | ifc b v h=>cases hf;exact .imm (.ifc b v h)
 | nil=>cases hg
 | emp a c=>cases hg
 | sl n cells b off cap us h1 h2 h3 h4 h5 ih=>cases hg
 | ptr cells b off us h1 h2 h3 h4 ih=>cases hg
 | agg cells us hl hr ih=>
  simp only[viewI,Option.map_eq_some_iff] at hf
  obtain⟨gs',h1,rfl⟩:=hf
  obtain⟨h2,h3⟩:=viewI_go h1
  refine .agg gs' us (by omega) fun j g v hg' hv=>?_
  obtain⟨g0,h4,h5⟩:=h3 j g hg'
  exact ih j g0 v h4 hv (freG_mem hg j g0 h4) h5
theorem freG_spec {O X:Nat→Prop}{base:Nat}{μ μ':Mu}{w:World}{g g':G}{v:Value}(h:RepV O base w μ g v) (hX:∀b,X b→b<w.heap.size→Old O base b) (hg:freG g=true) (hf:viewI g=some g'):RepV X w.heap.size w μ' g' v:=by
 induction h generalizing g' with
 | imm h=>exact freI_spec (base:=base) (μ:=μ) h hX hg hf
 | fr h=>cases hf;exact .imm (h.mono (Kept.refl _ _) fun b hb hn hx=>hn (hX b hx hb))
 | agg cells us hl hr ih=>
  simp only[viewI,Option.map_eq_some_iff] at hf
  obtain⟨gs',h1,rfl⟩:=hf
  obtain⟨h2,h3⟩:=viewI_go h1
  refine .agg gs' us (by omega) fun j g v hg' hv=>?_
  obtain⟨g0,h4,h5⟩:=h3 j g hg'
  exact ih j g0 v h4 hv (freG_mem hg j g0 h4) h5
 | clo f caps us hl hr ih=>
  simp only[viewI,Option.map_eq_some_iff] at hf
  obtain⟨gs',h1,rfl⟩:=hf
  obtain⟨h2,h3⟩:=viewI_go h1
  refine .clo f gs' us (by omega) fun j g v hg' hv=>?_
  obtain⟨g0,h4,h5⟩:=h3 j g hg'
  exact ih j g0 v h4 hv (freG_mem hg j g0 h4) h5
 | _=>cases hg
theorem upI_spec {X O:Nat→Prop}{base:Nat}{μ:Mu}{w:World}{g:G}{v:Value}(h:RepI X w g v) (hO:∀b,b<w.heap.size→Old O base b→X b) (hi:impG g=true):RepV O base w μ (upG g) v:=by
 have key:∀{g:G}{v:Value},RepI X w g v→RepI (Old O base) w g v:=fun h=>h.mono (Kept.refl _ _) fun b hb hn ho=>hn (hO b hb ho)
 induction h with
 | any v=>cases hi
 | val v=>exact .imm (.val _)
 | ifc b v h=>exact .fr (.ifc b v h)
 | nil=>exact .fr .nil
 | emp a c=>exact .fr (.emp a c)
 | sl n cells b off cap us h1 h2 h3 h4 h5 ih=>exact .fr (key (.sl n cells b off cap us h1 h2 h3 h4 h5))
 | ptr cells b off us h1 h2 h3 h4 ih=>exact .fr (key (.ptr cells b off us h1 h2 h3 h4))
 | agg cells us hl hr ih=>
  refine .agg _ us (by rw[upG_len];exact hl) fun j g v hg hv=>?_
  obtain⟨g0,h1,rfl⟩:=upG_at hg
  exact ih j g0 v h1 hv (impG_go hi j g0 h1)
theorem upG_spec {X O:Nat→Prop}{bX base:Nat}{μX μ:Mu}{w:World}{g:G}{v:Value}(h:RepV X bX w μX g v) (hO:∀b,b<w.heap.size→Old O base b→X b) (hi:impG g=true):RepV O base w μ (upG g) v:=by
 induction h with
 | imm h=>exact upI_spec h hO hi
 | fr h=>exact .fr (h.mono (Kept.refl _ _) fun b hb hn ho=>hn (.inr (hO b hb ho)))
 | agg cells us hl hr ih=>
  refine .agg _ us (by rw[upG_len];exact hl) fun j g v hg hv=>?_
  obtain⟨g0,h1,rfl⟩:=upG_at hg
  exact ih j g0 v h1 hv (impG_go hi j g0 h1)
 | tup cells us hl hr ih=>
  refine .tup _ us (by rw[upG_len];exact hl) fun j g v hg hv=>?_
  obtain⟨g0,h1,rfl⟩:=upG_at hg
  exact ih j g0 v h1 hv (impG_go hi j g0 h1)
 | clo f cells us hl hr ih=>
  refine .clo f _ us (by rw[upG_len];exact hl) fun j g v hg hv=>?_
  obtain⟨g0,h1,rfl⟩:=upG_at hg
  exact ih j g0 v h1 hv (impG_go hi j g0 h1)
 | _=>cases hi
section
variable {P:Program}{N:Nat}{cx:Cx}{s:St}
variable {ty:TypeId}{pos:String}{after:Array Edge}{guard:Option (Nat×Bool)}{W:List Nat}{d:Nat}
theorem call_coreF {f:FuncId}{vs:List Value}{gs gs':List G}{Q:G→List (Nat×Blk)→Prop}{μ:Mu}{a:Act}{w:World}(hr:Rel N cx μ s a w) (hfre:freG.go gs=true) (hv:mapO viewI gs=some gs')
  (hvs:vs.length=gs.length) (hrep:∀(j:Nat) (g:G) (v:Value),gs[j]?=some g→vs[j]?=some v→RepV (cx.O s.st μ) cx.base w μ g v)
  (hcon:GM P f gs' [] Q) (hres:∀r st',Q r st'→impG r=true∧st'=[]):
  Calls P f vs.toArray w fun e w'=>∃v r st',e=.returned v∧Q r st'∧Rel N cx μ s a w'∧RepV (cx.O s.st μ) cx.base w' μ (upG r) v∧Step W s.st μ s.st μ w w':=by
 obtain⟨h1,h2⟩:=mapO_get hv
 have hXO:∀b,cx.O s.st μ b→b<w.heap.size:=fun b hb=>by
  rcases hb with hb | hb
  ·have:=hr.st.xlt b hb;have:=hr.st.hb;omega
  ·exact own_lt hr.st hb
 have hX:∀b,(Old (cx.O s.st μ) cx.base b∧b<w.heap.size)→b<w.heap.size:=fun b hb=>hb.2
 refine(hcon.returned (fun b=>Old (cx.O s.st μ) cx.base b∧b<w.heap.size) (fun _=>none) w vs hX (relSt_nil hX (hr.st.glw fun _ h=>(own_nil h).elim)) (by omega) fun j g v hg hv=>?_).mono ?_
 ·obtain⟨g0,h3,h4⟩:=h2 j g hg
  refine freG_spec (O:=cx.O s.st μ) (base:=cx.base) (hrep j g0 v h3 hv) ?_ (freG_mem hfre j g0 h3) h4
  rintro b (hb | hb) _
  ·exact hb.1
  ·exact absurd hb own_nil
 ·rintro e w' ⟨v,r,st',μ',rfl,hq,hst,hrv⟩
  have hkeep:∀b,b<w.heap.size→w'.heap[b]?=w.heap[b]?:=fun b hb=>hst.keep b hb own_nil
  obtain⟨hf,hs⟩:=hres r st' hq
  subst hs
  refine⟨v,r,[],rfl,hq,hr.kept hst.hb hkeep hst.os hst.tape hst.output,?_,⟨hst.hb,fun b hb _=>hkeep b hb,fun h k c m b hw h1 h2 hi=>.inl ⟨h,k,c,m,hw,h1,h2,hi⟩⟩⟩
  refine upG_spec hrv ?_ hf
  intro b _ hb
  refine .inl ⟨hb,?_⟩
  rcases hb with hb | hb
  ·exact Nat.lt_of_lt_of_le hb hr.st.hb
  ·exact hXO b hb
theorem EF.callAF {f:FuncId}{xs:Array Operand}{ts:Array TypeId}{gs gs':List G}{Q:G→List (Nat×Blk)→Prop}(hc:∀args w,(callFunc f args).run P w=.ok (.enter f args) w)
  (hx:evA s xs.toList=some gs) (hfre:freG.go gs=true) (hv:mapO viewI gs=some gs') (hcon:GM P f gs' [] Q) (hres:∀r st',Q r st'→impG r=true∧st'=[]):
  Effect P W s ⟨some d,.call ⟨.value (.func f),xs,ts⟩,ty,pos,after,guard⟩ (fun s'=>∃r st',Q r st'∧s'=s.put d (upG r)):=by
 refine⟨(fun _ h=>by cases h),?_⟩
 intro N cx μ a w hr hN K Q' hK
 obtain⟨h1,h2⟩:=evA_get hx
 have hcall:=call_coreF (vs:=xs.toList.map a.eval) (W:=W) hr hfre hv (by simp[h1]) (fun j g v hg hv=>by
  obtain⟨x,hxj,he⟩:=h2 j g hg
  rw[List.getElem?_map,hxj] at hv
  cases hv
  exact hr.ev he) hcon hres
 unfold Oper.wp
 have:(execOp a.eval ⟨some d,.call ⟨.value (.func f),xs,ts⟩,ty,pos,after,guard⟩).run P w=.ok (.enter f (xs.toList.map a.eval).toArray) w:=by
  have e:xs.map a.eval=(xs.toList.map a.eval).toArray:=by rw[←Array.toList_map]
  simp[execOp,resolve,invoke,Deferred.ofValue,Act.eval,hc,e]
 rw[this]
 refine hcall.mono ?_
 rintro e w' ⟨v,r,st',rfl,hq,hr',hrv,hst⟩
 exact hK μ _ _ w' (hr'.put (hN d rfl) hrv) ⟨r,st',hq,rfl⟩ hst
end
section
variable {S:Sig}
def TV.fre:TV S→Bool
 | .dat f τ _=>f||τ.scal
 | .ptr f _ _=>f
 | .val _=>true
 | .agg l=>go l
 | .clo _ l=>go l
 | _=>false
where go:List (TV S)→Bool
 | []=>true
 | x::r=>x.fre&&go r
theorem freG_frB {g:G}(h:Pl g):freG (frB true g)=true:=by
 rcases h with ⟨u,rfl⟩ | ⟨n,cs,rfl⟩ | ⟨b,rfl⟩ <;> rfl
mutual
theorem fre_freG (ln:Nat→Nat):∀v:TV S,v.fre=true→freG (v.er ln)=true
 | .dat f τ a,hf=>by
  have hf:(f||τ.scal)=true:=hf
  cases τ with
  | st n=>
   have e:f=true:=by simpa[Ty.scal] using hf
   subst e
   show freG.go ((encT S (.st n) a).map (frB true))=true
   have h:=enc_Pl (S:=S) (.st n) a
   generalize encT S (.st n) a=l at h
   induction l with
   | nil=>rfl
   | cons x r ih=>
    simp only[List.map_cons,freG.go,freG_frB (h x List.mem_cons_self),ih fun y hy=>h y (List.mem_cons_of_mem _ hy),Bool.and_self]
  | list τ=>
   have e:f=true:=by simpa[Ty.scal] using hf
   subst e;rfl
  | _=>cases f <;> rfl
 | .ptr f τ a,hf=>by
  have e:f=true:=hf
  subst e;rfl
 | .val _,_=>rfl
 | .agg l,h=>fre_freGL ln l h
 | .clo _ l,h=>fre_freGL ln l h
 | .tup _,h=>by cases h
 | .loc _ _,h=>by cases h
 | .elt _ _ _ _,h=>by cases h
 | .osl _ _,h=>by cases h
 | .sub _ _ _ _,h=>by cases h
 | .yld _,h=>by cases h
 | .mp _,h=>by cases h
 | .ks _ _ _ _,h=>by cases h
 | .kp _ _ _ _,h=>by cases h
 | .kpo _ _ _ _ _,h=>by cases h
 | .lpo _ _ _,h=>by cases h
 | .any,h=>by cases h
theorem fre_freGL (ln:Nat→Nat):∀l:List (TV S),TV.fre.go l=true→freG.go (TV.er.go ln l)=true
 | [],_=>rfl
 | x::r,h=>by
  simp only[TV.fre.go,Bool.and_eq_true] at h
  simp only[TV.er.go,freG.go,fre_freG ln x h.1,fre_freGL ln r h.2,Bool.and_self]
end
mutual
theorem fre_imp:∀v:TV S,v.fre=true→v.imp=true
 | .dat f τ a,_=>rfl
 | .ptr f τ a,_=>rfl
 | .val _,_=>rfl
 | .agg l,h=>fre_impL l h
 | .clo _ l,h=>fre_impL l h
 | .tup _,h=>by cases h
 | .loc _ _,h=>by cases h
 | .elt _ _ _ _,h=>by cases h
 | .osl _ _,h=>by cases h
 | .sub _ _ _ _,h=>by cases h
 | .yld _,h=>by cases h
 | .mp _,h=>by cases h
 | .ks _ _ _ _,h=>by cases h
 | .kp _ _ _ _,h=>by cases h
 | .kpo _ _ _ _ _,h=>by cases h
 | .lpo _ _ _,h=>by cases h
 | .any,h=>by cases h
theorem fre_impL:∀l:List (TV S),TV.fre.go l=true→TV.imp.go l=true
 | [],_=>rfl
 | x::r,h=>by
  simp only[TV.fre.go,Bool.and_eq_true] at h
  simp only[TV.imp.go,fre_imp x h.1,fre_impL r h.2,Bool.and_self]
end
def TV.up:TV S→TV S
 | .dat _ τ a=>.dat true τ a
 | .tup l=>.tup (go l)
 | v=>v
where go:List (TV S)→List (TV S)
 | []=>[]
 | .dat _ τ a::r=>.dat true τ a::go r
 | v::r=>v::go r
theorem up_frB {f:Bool}{g:G}(h:Pl g):upG (frB f g)=frB true g:=by
 rcases h with ⟨u,rfl⟩ | ⟨n,cs,rfl⟩ | ⟨b,rfl⟩ <;> cases f <;> rfl
theorem up_dat (f:Bool) (τ:Ty) (a:S.D τ):upG (datG f τ a)=datG true τ a:=by
 cases τ with
 | st n=>
  show G.agg (upG.go ((encT S (.st n) a).map (frB f)))=G.agg ((encT S (.st n) a).map (frB true))
  congr 1
  have h:=enc_Pl (S:=S) (.st n) a
  generalize encT S (.st n) a=l at h
  induction l with
  | nil=>rfl
  | cons x r ih=>
   simp only[List.map_cons,upG.go,up_frB (h x List.mem_cons_self),ih fun y hy=>h y (List.mem_cons_of_mem _ hy)]
 | _=>exact up_frB (cell_Pl rfl a)
theorem up_go (ln:Nat→Nat):∀(slots:List (Nat×Sh)) (ls:List (Leaf S.α)),datsOnly slots=true→ls.length=(slotTys slots).length→TV.er.go ln (TV.up.go ((fillF slots ls).1.map (·.2)))=upG.go (TV.er.go ln ((fillF slots ls).1.map (·.2)))
 | [],_,_,_=>rfl
 | (d,.dat f τ)::r,ls,h,hl=>by
  cases ls with
  | nil=>simp[slotTys,Sh.tys] at hl
  | cons x xs=>
   simp only[fillF,fillV,List.map_cons,TV.up.go,TV.er.go,upG.go]
   rw[up_go ln r xs h (by simpa[slotTys,Sh.tys] using hl)]
   exact congrArg (·::_) (up_dat f x.τ x.a).symm
 | (d,.own h τ)::r,ls,h',_=>by cases h'
 | (d,.ptr _ _)::r,ls,h',_=>by cases h'
 | (d,.loc _ _)::r,ls,h',_=>by cases h'
 | (d,.clo _ _)::r,ls,h',_=>by cases h'
 | (d,.agg _)::r,ls,h',_=>by cases h'
 | (d,.yld _)::r,ls,h',_=>by cases h'
 | (d,.mp _)::r,ls,h',_=>by cases h'
 | (d,.kpo _ _)::r,ls,h',_=>by cases h'
 | (d,.lpo _ _)::r,ls,h',_=>by cases h'
 | (d,.ks _ _)::r,ls,h',_=>by cases h'
 | (d,.any)::r,ls,h',_=>by cases h'
 | (d,.cloN)::r,ls,h',_=>by cases h'
 | (d,.sub _ _)::r,ls,h',_=>by cases h'
theorem up_er (ln:Nat→Nat){slots:List (Nat×Sh)}{ls:List (Leaf S.α)}(h:datsOnly slots=true) (hl:ls.length=(slotTys slots).length):((resV slots ls).up).er ln=upG ((resV slots ls).er ln):=by
 have hg:=up_go ln slots ls h hl
 match slots,h with
 | [],_=>rfl
 | [(d,.dat f τ)],_=>cases ls with
  | nil=>simp[slotTys,Sh.tys] at hl
  | cons x xs=>exact(up_dat f x.τ x.a).symm
 | (d,.dat f τ)::(d',sh)::r,_=>exact congrArg G.tup hg
def callG (con:Con S) (s:TSt S) (d:Nat) (vs:List (TV S)){A:Type}(k:TSt S→Option A):Option A:=
 match plainC con&&(!(freshS con.slots)&&TV.fre.go vs) with
 | true=>match viewTL s con.args vs with
  | some ls=>match tupOf (begTys con.args con.objs) ls with
   | some q=>(con.F q).bind fun r=>k (s.put d (resV con.slots (leaves _ r)).up)
   | none=>none
  | none=>none
 | false=>callF con s d vs k
theorem callG_ok {P:Program}{N:Nat}{W:List Nat}{con:Con S}(C:ConOk P con){s:TSt S}{d:Nat}{vs:List (TV S)}{A:Type}{k:TSt S→Option A}{r:A}(hl:LInv s) (h:callG con s d vs k=some r)
  {xs:Array Operand}{ts:Array TypeId}{ty:TypeId}{pos:String}{after:Array Edge}{guard:Option (Nat×Bool)}(hv:tevs s xs.toList=some vs):
  ∃T:St→Prop,Effect P W s.er ⟨some d,.call ⟨.value (.func con.f),xs,ts⟩,ty,pos,after,guard⟩ T∧∀s',T s'→∃t:TSt S,Gh s' t.er∧LInv t∧Keep s t∧k t=some r:=by
 unfold callG at h
 split at h
 ·rename_i hc
  simp only[Bool.and_eq_true,Bool.not_eq_true'] at hc
  obtain⟨hp,_,hfr⟩:=hc
  obtain⟨C1,C2,C3⟩:=plain_spec C hp
  split at h
  ·rename_i ls hls
   split at h
   ·rename_i q hq
    obtain⟨res,h1,h2⟩:=bind_some h
    have hview:=(viewTL_ok 1 (fun _=>0) C1 hls []).2
    rw[List.append_nil,←leaves_tupOf hq] at hview
    have hlen:=res_len res (plain_outs hp)
    have himp:=imp_noOwnL s.ln vs (fre_impL vs hfr)
    refine⟨_,EF.callAF (P:=P) (W:=W) C.call (tevs_ok hv).2 (fre_freGL s.ln vs hfr) (mapO_imp himp hview) (C3 q res h1) (fun g st hg=>⟨by rw[hg.1];exact imp_res C2 hlen _,hg.2⟩),?_⟩
    intro s' hs'
    obtain⟨g,st,⟨hg,_⟩,e⟩:=hs'
    subst e;subst hg
    refine⟨_,?_,hl.put d _,⟨rfl,rfl,rfl⟩,h2⟩
    rw[put_er,up_er s.ln C2 hlen,res_ln s.ln (fun _=>0) C2]
    exact Gh.refl _
   ·cases h
  ·cases h
 ·exact callF_ok (N:=N) C hl h hv
end
end Go.DN
/-
 DN,part W:calls to which all objects are lent,and what comes back.
-/
namespace Go.DN
open Go.AM
section
variable {P:Program}{W:List Nat}{s:St}{d:Nat}{ty:TypeId}{pos:String}{after:Array Edge}{guard:Option (Nat×Bool)}
theorem EF.lendT {f:FuncId}{xs:Array Operand}{ts:Array TypeId}{gs gs':List G}{stC:List (Nat×Blk)}{Q:G→List (Nat×Blk)→Prop}{T:St→Prop}(H:List Nat) (vw:Bool) (hc:∀args w,(callFunc f args).run P w=.ok (.enter f args) w)
  (hx:evA s xs.toList=some gs) (hv:lendG.go H (lendV s.st H vw) gs=some gs') (hl:lendSt H (lendV s.st H vw) s.st H 0=some stC) (hnd:ndB H=true) (hcon:GM P f gs' stC Q)
  (hres:∀r st',Q r st'→∃bk s2 r',backS vw s H st' bk=some s2∧renG vw (bkH st' bk) r=some r'∧T (s2.put d r')) (hW:allIn H W=true):
  Effect P W s ⟨some d,.call ⟨.value (.func f),xs,ts⟩,ty,pos,after,guard⟩ T:=by
 refine⟨(fun _ h=>by cases h),?_⟩
 intro N cx μ a w hr hN K Q' hK
 obtain⟨h1,h2⟩:=evA_get hx
 have hcall:=lend_core (vs:=xs.toList.map a.eval) hr hv hl hnd (by simp[h1]) (fun j g v hg hv=>by
  obtain⟨x,hxj,he⟩:=h2 j g hg
  rw[List.getElem?_map,hxj] at hv
  cases hv
  exact hr.ev he) hcon
 unfold Oper.wp
 have:(execOp a.eval ⟨some d,.call ⟨.value (.func f),xs,ts⟩,ty,pos,after,guard⟩).run P w=.ok (.enter f (xs.toList.map a.eval).toArray) w:=by
  have e:xs.map a.eval=(xs.toList.map a.eval).toArray:=by rw[←Array.toList_map]
  simp[execOp,resolve,invoke,Deferred.ofValue,Act.eval,hc,e]
 rw[this]
 refine hcall.mono ?_
 rintro e w' (⟨v,r,st',μ',rfl,hq,hC,hrv⟩ | ⟨_,_,_,_,h,_⟩)
 ·obtain⟨bk,s2,r',hb,hren,hT⟩:=hres r st' hq
  obtain⟨q1,q2,q3,_⟩:=back_rel hr hl (ndB_spec hnd) hC hb
  exact hK _ _ _ w' (q1.put (hN d rfl) (q2 r r' v hrv hren)) hT (q3 W (allIn_spec hW))
 ·exact h.elim
end
section
variable {S:Sig}
def lend1 (s:TSt S) (vw:Bool) (H:List Nat) (τ:Ty):TV S→Option (S.D τ)
 | .dat _ τ' a=>match τ'.isSt with
  | true=>none
  | false=>castT τ' τ a
 | .val (.slice none 0 0)=>match τ with
  | .list _=>some []
  | _=>none
 | .osl h τ2=>match vw with
  | true=>match idxH H h with
   | none=>match oget s.stA h with
    | some (.arr _ _ _ τ' l)=>match decEq τ' τ2 with
     | isTrue _=>castT (.list τ') τ l
     | isFalse _=>none
    | _=>none
   | some _=>none
  | false=>none
 | _=>none
def lendL (s:TSt S) (vw:Bool) (H:List Nat):List Ty→List (TV S)→Option (List (Leaf S.α))
 | [],[]=>some []
 | τ::ts,v::vs=>match lend1 s vw H τ v with
  | some a=>match lendL s vw H ts vs with
   | some l=>some (⟨τ,a⟩::l)
   | none=>none
  | none=>none
 | _,_=>none
def lendD (s:TSt S) (vw:Bool) (H:List Nat) (τ:Ty) (v:TV S):Option (S.D τ):=
 match v with
 | .dat _ τ' a=>castT τ' τ a
 | .agg vs=>match τ with
  | .st n=>match lendL s vw H (S.tys n) vs with
   | some l=>S.put n l
   | none=>none
  | _=>none
 | v=>lend1 s vw H τ v
mutual
def lendS (s:TSt S) (vw:Bool) (H:List Nat):Sh→TV S→Option (List (Leaf S.α))
 | .dat false τ,v=>match lendD s vw H τ v with
  | some a=>some [⟨τ,a⟩]
  | none=>none
 | .ptr false τ,v=>match v with
  | .ptr _ τ' a=>match castT τ' τ a with
   | some b=>some [⟨τ,b⟩]
   | none=>none
  | _=>none
 | .own r τ,v=>match v with
  | .osl h τ'=>match idxH H h with
   | some i=>match Nat.beq (1000+i) r with
    | true=>match decEq τ' τ with
     | isTrue _=>some []
     | isFalse _=>none
    | false=>none
   | none=>none
  | _=>none
 | .loc r o,v=>match v with
  | .loc h o'=>match idxH H h with
   | some i=>match Nat.beq (1000+i) r&&Nat.beq o' o with
    | true=>some []
    | false=>none
   | none=>none
  | _=>none
 | .clo f l,v=>match v with
  | .clo f' vs=>match Nat.beq f' f with
   | true=>lendSL s vw H l vs
   | false=>none
  | _=>none
 | .agg l,v=>match v with
  | .agg vs=>lendSL s vw H l vs
  | _=>none
 | .yld r,v=>match v with
  | .yld h=>match idxH H h with
   | some i=>match Nat.beq (1000+i) r with
    | true=>some []
    | false=>none
   | none=>none
  | _=>none
 | .mp r,v=>match v with
  | .mp h=>match idxH H h with
   | some i=>match Nat.beq (1000+i) r with
    | true=>some []
    | false=>none
   | none=>none
  | _=>none
 | .lpo r o,v=>match v with
  | .loc h o'=>match idxH H h with
   | some i=>match Nat.beq (1000+i) r&&Nat.beq o' o with
    | true=>some [⟨.bool,false⟩]
    | false=>none
   | none=>none
  | .val (.pointer none)=>some [⟨.bool,true⟩]
  | .lpo b h o'=>match idxH H h with
   | some i=>match Nat.beq (1000+i) r&&Nat.beq o' o with
    | true=>some [⟨.bool,b⟩]
    | false=>none
   | none=>none
  | _=>none
 | .cloN,v=>match v with
  | .clo f []=>some [⟨.int .i64,(f:Int)⟩]
  | _=>none
 | .ks r τ,v=>match v with
  | .ks h τ' z n=>match idxH H h with
   | some i=>match Nat.beq (1000+i) r with
    | true=>match decEq τ' τ with
     | isTrue _=>some [⟨.int .i64,(z:Int)⟩,⟨.int .i64,(n:Int)⟩]
     | isFalse _=>none
    | false=>none
   | none=>none
  | _=>none
 | .sub r τ,v=>match v with
  | .sub h τ' o n=>match idxH H h with
   | some i=>match Nat.beq (1000+i) r with
    | true=>match decEq τ' τ with
     | isTrue _=>some [⟨.int .i64,(o:Int)⟩,⟨.int .i64,(n:Int)⟩]
     | isFalse _=>none
    | false=>none
   | none=>none
  | _=>none
 | _,_=>none
def lendSL (s:TSt S) (vw:Bool) (H:List Nat):List Sh→List (TV S)→Option (List (Leaf S.α))
 | [],[]=>some []
 | x::r,v::vs=>match lendS s vw H x v with
  | some a=>match lendSL s vw H r vs with
   | some l=>some (a++l)
   | none=>none
  | none=>none
 | _,_=>none
end
theorem lend_cell (H:List Nat) (stv:List (Nat×Blk)) (f:Bool){τ:Ty}(h:τ.isSt=false) (a:S.D τ):lendG H stv (frB f (cellG S τ a))=some (cellG S τ a):=by
 cases τ with
 | st n=>cases h
 | _=>cases f <;> rfl
theorem lend1_ok {s:TSt S}{vw:Bool}{H:List Nat}{τ:Ty}{v:TV S}{a:S.D τ}(h:lend1 s vw H τ v=some a):lendG H (lendV s.er.st H vw) (v.er s.ln)=some (cellG S τ a)∧τ.isSt=false:=by
 unfold lend1 at h
 split at h
 ·split at h
  ·cases h
  ·rename_i hs
   have:=castT_some h
   cases this
   refine⟨?_,hs⟩
   rw[er_dat1 hs]
   exact lend_cell H _ _ hs _
 ·split at h
  ·cases h;exact⟨rfl,rfl⟩
  ·cases h
 ·rename_i hh τ2
  split at h
  ·split at h
   ·rename_i hi
    split at h
    ·rename_i e m f τ' l ho
     split at h
     ·rename_i e1 _
      subst e1
      have:=castT_some h
      cases this
      refine⟨?_,rfl⟩
      show lendG H (lendV s.er.st H true) (.osl hh (S.sz τ') 0 (s.ln hh))=_
      simp only[lendG,hi,lendV,cond_true,view,outSt_of hi (sget_st ho),TO.er]
      rw[ln_arr ho,List.drop_zero,List.take_of_length_le (by rw[encs_lengthT];exact Nat.le_refl _)]
      rfl
     ·cases h
    ·cases h
   ·cases h
  ·cases h
 ·cases h
theorem lendL_ok {s:TSt S}{vw:Bool}{H:List Nat}:∀{ts:List Ty}{vs:List (TV S)}{l:List (Leaf S.α)},lendL s vw H ts vs=some l→lendG.go H (lendV s.er.st H vw) (TV.er.go s.ln vs)=some (l.map fun x=>cellG S x.τ x.a)
 | [],[],_,h=>by cases h;rfl
 | τ::ts,v::vs,l,h=>by
  simp only[lendL] at h
  split at h
  ·rename_i a ha
   split at h
   ·rename_i l' hl
    cases h
    simp only[TV.er.go,lendG.go,(lend1_ok ha).1,lendL_ok hl,List.map_cons]
   ·cases h
  ·cases h
 | [],_::_,_,h=>by cases h
 | _::_,[],_,h=>by cases h
theorem lendD_ok {s:TSt S}{vw:Bool}{H:List Nat}{τ:Ty}{v:TV S}{a:S.D τ}(h:lendD s vw H τ v=some a) (ln:Nat→Nat):lendG H (lendV s.er.st H vw) (v.er s.ln)=some ((TV.dat false τ a:TV S).er ln):=by
 have one:lend1 s vw H τ v=some a→lendG H (lendV s.er.st H vw) (v.er s.ln)=some ((TV.dat false τ a:TV S).er ln):=by
  intro h
  obtain⟨h1,h2⟩:=lend1_ok h
  rw[h1,er_dat1 h2];rfl
 unfold lendD at h
 split at h
 ·rename_i f τ' a'
  have:=castT_some h
  cases this
  cases τ with
  | st k=>
   show(lendG.go H _ ((encT S (.st k) a).map (frB f))).map G.agg=some (.agg ((encT S (.st k) a).map (frB false)))
   have key:lendG.go H (lendV s.er.st H vw) ((encT S (.st k) a).map (frB f))=some ((encT S (.st k) a).map (frB false)):=by
    rw[enc_st]
    have h:=cells_one k a
    generalize S.cells k a=l at h
    induction l with
    | nil=>rfl
    | cons x r ih=>
     simp only[List.map_cons,lendG.go]
     rw[lend_cell H _ f (h x List.mem_cons_self) x.a,ih fun y hy=>h y (List.mem_cons_of_mem _ hy)]
     rfl
   rw[key];rfl
  | _=>exact one (by unfold lend1;exact h)
 ·rename_i vs
  split at h
  ·rename_i k
   split at h
   ·rename_i l hl
    have hp:=S.put_cells _ _ _ h
    show(lendG.go H _ (TV.er.go s.ln vs)).map G.agg=some (.agg ((encT S (.st k) a).map (frB false)))
    have e:(frB false)=(id:G→G):=rfl
    rw[e,List.map_id,enc_st,hp,lendL_ok hl];rfl
   ·cases h
  ·cases h
 ·exact one h
mutual
theorem lendS_ok {s:TSt S}{vw:Bool}{H:List Nat}{lnC:Nat→Nat}(hln:∀i h,idxH H h=some i→lnC (1000+i)=s.ln h):∀{sh:Sh}{v:TV S}{xs:List (Leaf S.α)},lendS s vw H sh v=some xs→∀r,(fillV sh (xs++r)).2=r∧lendG H (lendV s.er.st H vw) (v.er s.ln)=some ((fillV sh (xs++r)).1.er lnC)
 | .dat true τ,v,xs,h,r=>by simp[lendS] at h
 | .dat false τ,v,xs,h,r=>by
  simp only[lendS] at h
  split at h
  ·rename_i a ha
   cases h
   exact⟨rfl,lendD_ok ha lnC⟩
  ·cases h
 | .ptr true τ,v,xs,h,r=>by simp[lendS] at h
 | .ptr false τ,v,xs,h,r=>by
  simp only[lendS] at h
  split at h
  ·rename_i f τ' a
   split at h
   ·rename_i b hb
    cases h
    have:=castT_some hb
    cases this
    refine⟨rfl,?_⟩
    cases f <;> rfl
   ·cases h
  ·cases h
 | .own k τ,v,xs,h,r=>by
  simp only[lendS] at h
  split at h
  ·rename_i hh τ'
   split at h
   ·rename_i i hi
    split at h
    ·rename_i hb
     split at h
     ·rename_i e _
      cases h
      subst e
      have:=Nat.eq_of_beq_eq_true hb
      subst this
      refine⟨rfl,?_⟩
      show lendG H _ (.osl hh (S.sz τ') 0 (s.ln hh))=some (.osl (1000+i) (S.sz τ') 0 (lnC (1000+i)))
      simp only[lendG,hi,hln i hh hi]
     ·cases h
    ·cases h
   ·cases h
  ·cases h
 | .loc k o,v,xs,h,r=>by
  simp only[lendS] at h
  split at h
  ·rename_i hh o'
   split at h
   ·rename_i i hi
    split at h
    ·rename_i hb
     simp only[Bool.and_eq_true] at hb
     cases h
     have e1:=Nat.eq_of_beq_eq_true hb.1
     have e2:=Nat.eq_of_beq_eq_true hb.2
     subst e1;subst e2
     refine⟨rfl,?_⟩
     show lendG H _ (.loc hh o')=some (.loc (1000+i) o')
     simp only[lendG,hi]
    ·cases h
   ·cases h
  ·cases h
 | .clo f l,v,xs,h,r=>by
  simp only[lendS] at h
  split at h
  ·rename_i f' vs
   split at h
   ·rename_i hb
    have e:=Nat.eq_of_beq_eq_true hb
    subst e
    obtain⟨i1,i2⟩:=lendSL_ok hln h r
    refine⟨i1,?_⟩
    show(lendG.go H _ (TV.er.go s.ln vs)).map (G.clo f')=_
    rw[i2];rfl
   ·cases h
  ·cases h
 | .agg l,v,xs,h,r=>by
  simp only[lendS] at h
  split at h
  ·rename_i vs
   obtain⟨i1,i2⟩:=lendSL_ok hln h r
   refine⟨i1,?_⟩
   show(lendG.go H _ (TV.er.go s.ln vs)).map G.agg=_
   rw[i2];rfl
  ·cases h
 | .yld k,v,xs,h,r=>by
  simp only[lendS] at h
  split at h
  ·rename_i hh
   split at h
   ·rename_i i hi
    split at h
    ·rename_i hb
     cases h
     have:=Nat.eq_of_beq_eq_true hb
     subst this
     refine⟨rfl,?_⟩
     show lendG H _ (.yld hh)=some (.yld (1000+i))
     simp only[lendG,hi]
    ·cases h
   ·cases h
  ·cases h
 | .mp k,v,xs,h,r=>by
  simp only[lendS] at h
  split at h
  ·rename_i hh
   split at h
   ·rename_i i hi
    split at h
    ·rename_i hb
     cases h
     have:=Nat.eq_of_beq_eq_true hb
     subst this
     refine⟨rfl,?_⟩
     show lendG H _ (.mref hh)=some (.mref (1000+i))
     simp only[lendG,hi]
    ·cases h
   ·cases h
  ·cases h
 | .any,v,xs,h,r=>by simp[lendS] at h
 | .lpo k o,v,xs,h,r=>by
  simp only[lendS] at h
  split at h
  ·rename_i hh o'
   split at h
   ·rename_i i hi
    split at h
    ·rename_i hb
     rw[Bool.and_eq_true] at hb
     cases h
     have e1:=Nat.eq_of_beq_eq_true hb.1
     have e2:=Nat.eq_of_beq_eq_true hb.2
     subst e1;subst e2
     refine⟨rfl,?_⟩
     show lendG H _ (.loc hh o')=some (.loc (1000+i) o')
     simp only[lendG,hi]
    ·cases h
   ·cases h
  ·cases h
   exact⟨rfl,rfl⟩
  ·rename_i b hh o'
   split at h
   ·rename_i i hi
    split at h
    ·rename_i hb
     rw[Bool.and_eq_true] at hb
     cases h
     have e1:=Nat.eq_of_beq_eq_true hb.1
     have e2:=Nat.eq_of_beq_eq_true hb.2
     subst e1;subst e2
     refine⟨rfl,?_⟩
     cases b with
     | true=>rfl
     | false=>
      show lendG H _ (.loc hh o')=some (.loc (1000+i) o')
      simp only[lendG,hi]
    ·cases h
   ·cases h
  ·cases h
 | .cloN,v,xs,h,r=>by
  simp only[lendS] at h
  split at h
  ·cases h
   exact⟨rfl,rfl⟩
  ·cases h
 | .ks k τ,v,xs,h,r=>by
  simp only[lendS] at h
  split at h
  ·rename_i hh τ' o n
   split at h
   ·rename_i i hi
    split at h
    ·rename_i hb
     split at h
     ·rename_i e _
      cases h
      subst e
      have:=Nat.eq_of_beq_eq_true hb
      subst this
      refine⟨rfl,?_⟩
      show lendG H _ (.ks hh o (S.sz τ') n)=some (.ks (1000+i) o (S.sz τ') n)
      simp only[lendG,hi]
     ·cases h
    ·cases h
   ·cases h
  ·cases h
 | .sub k τ,v,xs,h,r=>by
  simp only[lendS] at h
  split at h
  ·rename_i hh τ' o n
   split at h
   ·rename_i i hi
    split at h
    ·rename_i hb
     split at h
     ·rename_i e _
      cases h
      subst e
      have:=Nat.eq_of_beq_eq_true hb
      subst this
      refine⟨rfl,?_⟩
      show lendG H _ (.osl hh (S.sz τ') (o*S.sz τ') n)=some (.osl (1000+i) (S.sz τ') (o*S.sz τ') n)
      simp only[lendG,hi]
     ·cases h
    ·cases h
   ·cases h
  ·cases h
theorem lendSL_ok {s:TSt S}{vw:Bool}{H:List Nat}{lnC:Nat→Nat}(hln:∀i h,idxH H h=some i→lnC (1000+i)=s.ln h):∀{l:List Sh}{vs:List (TV S)}{xs:List (Leaf S.α)},lendSL s vw H l vs=some xs→∀r,(fillC l (xs++r)).2=r∧lendG.go H (lendV s.er.st H vw) (TV.er.go s.ln vs)=some (TV.er.go lnC (fillC l (xs++r)).1)
 | [],[],xs,h,r=>by simp only[lendSL] at h;cases h;exact⟨rfl,rfl⟩
 | x::l,v::vs,xs,h,r=>by
  simp only[lendSL] at h
  split at h
  ·rename_i a ha
   split at h
   ·rename_i l' hl
    cases h
    rw[List.append_assoc]
    obtain⟨i1,i2⟩:=lendS_ok hln ha (l'++r)
    obtain⟨j1,j2⟩:=lendSL_ok hln hl r
    simp only[fillC]
    rw[i1]
    refine⟨j1,?_⟩
    simp only[TV.er.go,lendG.go,i2,j2]
   ·cases h
  ·cases h
 | [],_::_,_,h,_=>by simp[lendSL] at h
 | _::_,[],_,h,_=>by simp[lendSL] at h
end
def lendOb (s:TSt S) (vw:Bool) (H:List Nat) (oh:Oh) (o:TO S):Option (List (Leaf S.α)):=
 match oh with
 | .arr e m f τ=>match o with
  | .arr e' _ _ τ' l=>match Nat.beq e' e&&(!m&&!f) with
   | true=>match castT (.list τ') (.list τ) l with
    | some l=>some [⟨.list τ,l⟩]
    | none=>none
   | false=>none
  | _=>none
 | .box e m cs=>match o with
  | .box e' _ vs=>match Nat.beq e' e&&!m with
   | true=>lendSL s vw H cs vs
   | false=>none
  | _=>none
 | .deep e m f dk τ=>match o with
  | .deep e' _ _ dk' τ' a=>match Nat.beq e' e&&(!m&&!f) with
   | true=>match decEq dk' dk with
    | isTrue _=>match castT τ' τ a with
     | some a=>some [⟨τ,a⟩]
     | none=>none
    | isFalse _=>none
   | false=>none
  | _=>none
 | .lp key lv cs=>match o with
  | .lp key' n vs=>match Nat.beq key' key with
   | true=>match lv with
    | true=>match lendSL s vw H cs vs with
     | some xs=>some (⟨.int .i64,n⟩::xs)
     | none=>none
    | false=>match decEq n 0 with
     | isTrue _=>lendSL s vw H cs vs
     | isFalse _=>none
   | false=>none
  | _=>none
def lendOs (s:TSt S) (vw:Bool) (H:List Nat):List Nat→List Oh→Option (List (Leaf S.α))
 | [],[]=>some []
 | h::hs,oh::r=>match oget s.stA h with
  | some o=>match lendOb s vw H oh o with
   | some a=>match lendOs s vw H hs r with
    | some l=>some (a++l)
    | none=>none
   | none=>none
  | none=>none
 | _,_=>none
theorem lendOb_fill {s:TSt S}{vw:Bool}{H:List Nat}{oh:Oh}{o:TO S}{xs:List (Leaf S.α)}(h:lendOb s vw H oh o=some xs) (r:List (Leaf S.α)):(fillB oh (xs++r)).2=r∧(fillB oh (xs++r)).1.len=o.len∧
  ∀lnC:Nat→Nat,(∀i h,idxH H h=some i→lnC (1000+i)=s.ln h)→lendB H (lendV s.er.st H vw) (o.er s.ln)=some ((fillB oh (xs++r)).1.er lnC):=by
 unfold lendOb at h
 split at h
 ·split at h
  ·split at h
   ·rename_i hc
    simp only[Bool.and_eq_true,Bool.not_eq_true'] at hc
    obtain⟨c1,c2,c3⟩:=hc
    split at h
    ·rename_i l' hl
     cases h
     obtain⟨e,hl⟩:=castT_list hl
     subst e
     cases hl
     have c1:=Nat.eq_of_beq_eq_true c1
     subst c1;subst c2;subst c3
     exact⟨rfl,rfl,fun _ _=>rfl⟩
    ·cases h
   ·cases h
  ·cases h
 ·split at h
  ·split at h
   ·rename_i hc
    simp only[Bool.and_eq_true,Bool.not_eq_true'] at hc
    have c1:=Nat.eq_of_beq_eq_true hc.1
    have c2:=hc.2
    subst c1;subst c2
    have i1:(fillC _ (xs++r)).2=r:=(lendSL_ok (lnC:=fun k=>s.ln ((H[k-1000]?).getD 0)) (fun i h hi=>by simp[idxH_some hi]) h r).1
    refine⟨i1,rfl,fun lnC hln=>?_⟩
    obtain⟨_,i2⟩:=lendSL_ok hln h r
    simp only[lendB,TO.er,cond_false,i2,fillB]
   ·cases h
  ·cases h
 ·split at h
  ·split at h
   ·rename_i hc
    simp only[Bool.and_eq_true,Bool.not_eq_true'] at hc
    obtain⟨c1,c2,c3⟩:=hc
    split at h
    ·rename_i e _
     subst e
     split at h
     ·rename_i l' hl
      cases h
      have:=castT_some hl
      cases this
      have c1:=Nat.eq_of_beq_eq_true c1
      subst c1;subst c2;subst c3
      exact⟨rfl,rfl,fun _ _=>rfl⟩
     ·cases h
    ·cases h
   ·cases h
  ·cases h
 ·split at h
  ·split at h
   ·rename_i hc
    have c1:=Nat.eq_of_beq_eq_true hc
    subst c1
    split at h
    ·split at h
     ·rename_i xs' hx
      cases h
      have i1:(fillC _ (xs'++r)).2=r:=(lendSL_ok (lnC:=fun k=>s.ln ((H[k-1000]?).getD 0)) (fun i h hi=>by simp[idxH_some hi]) hx r).1
      refine⟨i1,rfl,fun lnC hln=>?_⟩
      obtain⟨_,i2⟩:=lendSL_ok hln hx r
      simp only[lendB,TO.er,cond_false,i2,fillB]
      rfl
     ·cases h
    ·split at h
     ·rename_i hn _
      subst hn
      have i1:(fillC _ (xs++r)).2=r:=(lendSL_ok (lnC:=fun k=>s.ln ((H[k-1000]?).getD 0)) (fun i h hi=>by simp[idxH_some hi]) h r).1
      refine⟨i1,rfl,fun lnC hln=>?_⟩
      obtain⟨_,i2⟩:=lendSL_ok hln h r
      simp only[lendB,TO.er,cond_false,i2,fillB]
     ·cases h
   ·cases h
  ·cases h
theorem lendOs_ok {s:TSt S}{vw:Bool}{H:List Nat}:∀{hs:List Nat}{l:List Oh}{xs:List (Leaf S.α)}(i:Nat),lendOs s vw H hs l=some xs→∀r,(fillS (zipN l (1000+i)) (xs++r)).2=r∧
  (∀n h,hs[n]?=some h→lnO (fillS (zipN l (1000+i)) (xs++r)).1 (1000+(i+n))=s.ln h)∧
  ∀lnC:Nat→Nat,(∀i h,idxH H h=some i→lnC (1000+i)=s.ln h)→lendSt H (lendV s.er.st H vw) s.er.st hs i=some (erS lnC (fillS (zipN l (1000+i)) (xs++r)).1)
 | [],[],xs,i,h,r=>by simp only[lendOs] at h;cases h;exact⟨rfl,fun n h hn=>by simp at hn,fun _ _=>rfl⟩
 | h0::hs,oh::l,xs,i,h,r=>by
  simp only[lendOs] at h
  split at h
  ·rename_i o ho
   split at h
   ·rename_i a ha
    split at h
    ·rename_i l' hl
     cases h
     rw[List.append_assoc]
     obtain⟨i1,i2,i3⟩:=lendOb_fill ha (l'++r)
     obtain⟨j1,j2,j3⟩:=lendOs_ok (i+1) hl r
     simp only[zipN,fillS]
     rw[i1]
     refine⟨j1,fun n h hn=>?_,fun lnC hln=>?_⟩
     ·cases n with
      | zero=>
       cases hn
       unfold lnO TSt.ln lnO
       simp only[Nat.add_zero,oget,Nat.beq_refl,cond_true,ho,i2]
      | succ n=>
       have:=j2 n h (by simpa using hn)
       rw[←this]
       have e:1000+(i+(n+1))=1000+(i+1+n):=by omega
       rw[e]
       unfold lnO
       rw[oget_cons_other _ _ (by omega)]
       rfl
     ·simp only[lendSt,sget_st ho,i3 lnC hln,erS]
      have:=j3 lnC hln
      rw[show 1000+(i+1)=1000+i+1 by omega] at this
      rw[this]
    ·cases h
   ·cases h
  ·cases h
 | [],_::_,_,_,h,_=>by simp[lendOs] at h
 | _::_,[],_,_,h,_=>by simp[lendOs] at h
def TV.ren (vw:Bool) (f:Nat→Option Nat):TV S→Option (TV S)
 | .dat b τ a=>match !vw||(b||τ.scal) with
  | true=>some (.dat b τ a)
  | false=>none
 | .ptr b τ a=>match !vw||b with
  | true=>some (.ptr b τ a)
  | false=>none
 | .loc h o=>match f h with
  | some h'=>some (.loc h' o)
  | none=>none
 | .osl h τ=>match f h with
  | some h'=>some (.osl h' τ)
  | none=>none
 | .sub h τ o n=>match f h with
  | some h'=>some (.sub h' τ o n)
  | none=>none
 | .elt h τ a j=>match f h with
  | some h'=>some (.elt h' τ a j)
  | none=>none
 | .agg l=>match go f l with
  | some l'=>some (.agg l')
  | none=>none
 | .tup l=>match go f l with
  | some l'=>some (.tup l')
  | none=>none
 | .clo g l=>match go f l with
  | some l'=>some (.clo g l')
  | none=>none
 | .val u=>some (.val u)
 | .any=>some .any
 | .yld h=>match f h with
  | some h'=>some (.yld h')
  | none=>none
 | .mp h=>match f h with
  | some h'=>some (.mp h')
  | none=>none
 | .ks h τ i n=>match f h with
  | some h'=>some (.ks h' τ i n)
  | none=>none
 | .kp h τ i j=>match f h with
  | some h'=>some (.kp h' τ i j)
  | none=>none
 | .kpo b h τ i j=>match f h with
  | some h'=>some (.kpo b h' τ i j)
  | none=>none
 | .lpo b h o=>match f h with
  | some h'=>some (.lpo b h' o)
  | none=>none
where go (f:Nat→Option Nat):List (TV S)→Option (List (TV S))
 | []=>some []
 | x::r=>match x.ren vw f with
  | some y=>match go f r with
   | some ys=>some (y::ys)
   | none=>none
  | none=>none
theorem renG_frB (vw:Bool) (fm:Nat→Option Nat) (f:Bool){τ:Ty}(h:τ.isSt=false) (hv:(!vw||(f||τ.scal))=true) (a:S.D τ):renG vw fm (frB f (cellG S τ a))=some (frB f (cellG S τ a)):=by
 cases τ with
 | st n=>cases h
 | list t=>
  cases f with
  | true=>rfl
  | false=>
   cases vw with
   | true=>cases hv
   | false=>rfl
 | _=>cases f <;> rfl
mutual
theorem ren_ok {vw:Bool}{f:Nat→Option Nat}{ln ln':Nat→Nat}(hln:∀k k',f k=some k'→ln' k'=ln k):∀(v v':TV S),v.ren vw f=some v'→renG vw f (v.er ln)=some (v'.er ln')
 | .dat b τ a,v',h=>by
  simp only[TV.ren] at h
  split at h
  ·rename_i hv
   cases h
   cases τ with
   | st n=>
    show(renG.go vw f ((encT S (.st n) a).map (frB b))).map G.agg=some (.agg ((encT S (.st n) a).map (frB b)))
    have hv:(!vw||b)=true:=by simpa[Ty.scal] using hv
    have:renG.go vw f ((encT S (.st n) a).map (frB b))=some ((encT S (.st n) a).map (frB b)):=by
     rw[enc_st]
     have h:=cells_one n a
     generalize S.cells n a=l at h
     induction l with
     | nil=>rfl
     | cons x r ih=>
      simp only[List.map_cons,renG.go]
      rw[renG_frB vw f b (h x List.mem_cons_self) (by rw[←Bool.or_assoc,hv];rfl) x.a,ih fun y hy=>h y (List.mem_cons_of_mem _ hy)]
    rw[this];rfl
   | _=>exact renG_frB vw f b rfl hv a
  ·cases h
 | .ptr b τ a,v',h=>by
  simp only[TV.ren] at h
  split at h
  ·rename_i hv
   cases h
   cases b with
   | true=>rfl
   | false=>
    cases vw with
    | true=>cases hv
    | false=>rfl
  ·cases h
 | .loc hh o,v',h=>by
  simp only[TV.ren] at h
  split at h
  ·rename_i i hi
   cases h
   simp only[TV.er,renG,hi,Option.map_some]
  ·cases h
 | .osl hh τ,v',h=>by
  simp only[TV.ren] at h
  split at h
  ·rename_i i hi
   cases h
   simp only[TV.er,renG,hi,Option.map_some,hln hh i hi]
  ·cases h
 | .sub hh τ o n,v',h=>by
  simp only[TV.ren] at h
  split at h
  ·rename_i i hi
   cases h
   simp only[TV.er,renG,hi,Option.map_some]
  ·cases h
 | .elt hh τ a j,v',h=>by
  simp only[TV.ren] at h
  split at h
  ·rename_i i hi
   cases h
   simp only[TV.er,renG,hi,Option.map_some]
  ·cases h
 | .agg l,v',h=>by
  simp only[TV.ren] at h
  split at h
  ·rename_i l' hl
   cases h
   simp only[TV.er,renG,ren_okL hln l l' hl,Option.map_some]
  ·cases h
 | .tup l,v',h=>by
  simp only[TV.ren] at h
  split at h
  ·rename_i l' hl
   cases h
   simp only[TV.er,renG,ren_okL hln l l' hl,Option.map_some]
  ·cases h
 | .clo g l,v',h=>by
  simp only[TV.ren] at h
  split at h
  ·rename_i l' hl
   cases h
   simp only[TV.er,renG,ren_okL hln l l' hl,Option.map_some]
  ·cases h
 | .val u,v',h=>by simp only[TV.ren] at h;cases h;rfl
 | .any,v',h=>by simp only[TV.ren] at h;cases h;rfl
 | .yld hh,v',h=>by
  simp only[TV.ren] at h
  split at h
  ·rename_i i hi
   cases h
   simp only[TV.er,renG,hi,Option.map_some]
  ·cases h
 | .mp hh,v',h=>by
  simp only[TV.ren] at h
  split at h
  ·rename_i i hi
   cases h
   simp only[TV.er,renG,hi,Option.map_some]
  ·cases h
 | .ks hh _ _ _,v',h=>by
  simp only[TV.ren] at h
  split at h
  ·rename_i i hi
   cases h
   simp only[TV.er,renG,hi,Option.map_some]
  ·cases h
 | .kp hh _ _ _,v',h=>by
  simp only[TV.ren] at h
  split at h
  ·rename_i i hi
   cases h
   simp only[TV.er,renG,hi,Option.map_some]
  ·cases h
 | .kpo b hh _ _ _,v',h=>by
  simp only[TV.ren] at h
  split at h
  ·rename_i i hi
   cases h
   cases b with
   | true=>rfl
   | false=>simp only[TV.er,cond_false,renG,hi,Option.map_some]
  ·cases h
 | .lpo b hh _,v',h=>by
  simp only[TV.ren] at h
  split at h
  ·rename_i i hi
   cases h
   cases b with
   | true=>rfl
   | false=>simp only[TV.er,cond_false,renG,hi,Option.map_some]
  ·cases h
theorem ren_okL {vw:Bool}{f:Nat→Option Nat}{ln ln':Nat→Nat}(hln:∀k k',f k=some k'→ln' k'=ln k):∀(l l':List (TV S)),TV.ren.go vw f l=some l'→renG.go vw f (TV.er.go ln l)=some (TV.er.go ln' l')
 | [],l',h=>by cases h;rfl
 | x::r,l',h=>by
  simp only[TV.ren.go] at h
  split at h
  ·rename_i y hy
   split at h
   ·rename_i ys hys
    cases h
    simp only[TV.er.go,renG.go,ren_ok hln x y hy,ren_okL hln r ys hys]
   ·cases h
  ·cases h
end
end
end Go.DN
/-
 DN,part X:what comes back of a call to which objects were lent.
-/
namespace Go.DN
open Go.AM
section
variable {S:Sig}
def backT (vw:Bool) (f:Nat→Option Nat) (A:Bool) (gst:List (Nat×Blk)):List (Nat×TO S)→List Nat→Option (List (Nat×TO S))
 | [],[]=>some []
 | (j,o)::r,h::hs=>match o with
  | .box e m cs=>match TV.ren.go vw f cs with
   | some cs'=>match backT vw f A gst r hs with
    | some r'=>some ((h,.box e (bif pinned j then mineOf gst h else m||A) cs')::r')
    | none=>none
   | none=>none
  | .arr e m b τ l=>match !vw||b with
   | true=>match backT vw f A gst r hs with
    | some r'=>some ((h,.arr e (bif pinned j then mineOf gst h else m||A) b τ l)::r')
    | none=>none
   | false=>none
  | .lp key n cs=>match TV.ren.go vw f cs with
   | some cs'=>match backT vw f A gst r hs with
    | some r'=>some ((h,.lp key n cs')::r')
    | none=>none
   | none=>none
  | .deep e m b dk τ l=>match !vw||b with
   | true=>match backT vw f A gst r hs with
    | some r'=>some ((h,.deep e (bif pinned j then mineOf gst h else m||A) b dk τ l)::r')
    | none=>none
   | false=>none
 | _,_=>none
theorem backT_ok {vw:Bool}{f:Nat→Option Nat}{ln ln':Nat→Nat}(hln:∀k k',f k=some k'→ln' k'=ln k){A:Bool}{gst:List (Nat×Blk)}:∀{outs:List (Nat×TO S)}{bk:List Nat}{sb:List (Nat×TO S)},backT vw f A gst outs bk=some sb→backSt vw f A gst (erS ln outs) bk=some (erS ln' sb)
 | [],[],sb,h=>by cases h;rfl
 | (j,o)::r,h0::hs,sb,h=>by
  simp only[backT] at h
  cases o with
  | lp p n cs=>
   dsimp only at h
   split at h
   ·rename_i cs' hcs
    split at h
    ·rename_i r' hr
     cases h
     simp only[erS,backSt,backT_ok hln hr,TO.er]
     simp only[renB,cond_false,ren_okL hln cs cs' hcs,mineBk,isLoop,cond_true]
    ·cases h
   ·cases h
  | arr e m b τ l=>
   dsimp only at h
   split at h
   ·rename_i hv
    split at h
    ·rename_i r' hr
     cases h
     simp only[erS,backSt,backT_ok hln hr,TO.er]
     have hv:(vw&&!b)=false:=by cases vw <;> cases b <;> first | rfl | cases hv
     simp only[renB,cond_true,hv,cond_false,mineBk,isLoop]
     cases pinned j <;> rfl
    ·cases h
   ·cases h
  | deep e m b dk τ l=>
   dsimp only at h
   split at h
   ·rename_i hv
    split at h
    ·rename_i r' hr
     cases h
     simp only[erS,backSt,backT_ok hln hr,TO.er]
     have hv:(vw&&!b)=false:=by cases vw <;> cases b <;> first | rfl | cases hv
     simp only[renB,cond_true,hv,cond_false,mineBk,isLoop]
     cases pinned j <;> rfl
    ·cases h
   ·cases h
  | box e m cs=>
   dsimp only at h
   split at h
   ·rename_i cs' hcs
    split at h
    ·rename_i r' hr
     cases h
     simp only[erS,backSt,backT_ok hln hr,TO.er]
     simp only[renB,cond_false,ren_okL hln cs cs' hcs,mineBk,isLoop,cond_true]
     cases pinned j <;> rfl
    ·cases h
   ·cases h
 | [],_::_,_,h=>by cases h
 | _::_,[],_,h=>by cases h
theorem backT_get {vw:Bool}{f:Nat→Option Nat}{A:Bool}{gst:List (Nat×Blk)}{ln:Nat→Nat}:∀{outs:List (Nat×TO S)}{bk:List Nat}{sb:List (Nat×TO S)},backT vw f A gst outs bk=some sb→ndB bk=true→
  ∀k k',bkH (erS ln outs) bk k=some k'→k'∈bk∧∃o o',oget outs k=some o∧oget sb k'=some o'∧o'.len=o.len
 | [],[],sb,h,_,k,k',hk=>by cases hk
 | (j,o)::r,h0::hs,sb,h,hn,k,k',hk=>by
  simp only[ndB,Bool.and_eq_true,Bool.not_eq_true'] at hn
  have hsb:∃o' r',sb=(h0,o')::r'∧o'.len=o.len∧backT vw f A gst r hs=some r':=by
   simp only[backT] at h
   cases o with
   | lp p n cs=>
    dsimp only at h
    split at h
    ·split at h
     ·rename_i r' hr;cases h;exact⟨_,_,rfl,rfl,hr⟩
     ·cases h
    ·cases h
   | arr e m b τ l=>
    dsimp only at h
    split at h
    ·split at h
     ·rename_i r' hr;cases h;exact⟨_,_,rfl,rfl,hr⟩
     ·cases h
    ·cases h
   | deep e m b dk τ l=>
    dsimp only at h
    split at h
    ·split at h
     ·rename_i r' hr;cases h;exact⟨_,_,rfl,rfl,hr⟩
     ·cases h
    ·cases h
   | box e m cs=>
    dsimp only at h
    split at h
    ·split at h
     ·rename_i r' hr;cases h;exact⟨_,_,rfl,rfl,hr⟩
     ·cases h
    ·cases h
  obtain⟨o',r',rfl,hlen,hr⟩:=hsb
  simp only[erS,bkH] at hk
  cases hb:Nat.beq j k with
  | true=>
   rw[hb] at hk
   cases hk
   have:=Nat.eq_of_beq_eq_true hb
   subst this
   exact⟨List.mem_cons_self,o,o',by simp only[oget,Nat.beq_refl,cond_true],by simp only[oget,Nat.beq_refl,cond_true],hlen⟩
  | false=>
   rw[hb] at hk
   obtain⟨i1,a,b,i2,i3,i4⟩:=backT_get (ln:=ln) hr hn.2 k k' hk
   refine⟨List.mem_cons_of_mem _ i1,a,b,by simp only[oget,hb,cond_false];exact i2,?_,i4⟩
   have hne:Nat.beq h0 k'=false:=by
    cases hq:Nat.beq h0 k' with
    | false=>rfl
    | true=>
     have:=Nat.eq_of_beq_eq_true hq
     subst this
     have h2:=hn.1
     rw[List.contains_iff_mem.2 i1] at h2
     cases h2
   simp only[oget,hne,cond_false];exact i3
 | [],_::_,_,h,_,_,_,_=>by cases h
 | _::_,[],_,h,_,_,_,_=>by cases h
end
end Go.DN
/-
 DN,part Y:a call to which objects are lent:the caller's state behind it.
-/
namespace Go.DN
open Go.AM
section
variable {S:Sig}
mutual
def pairV:Sh→TV S→List (Nat×Nat)
 | .own r _,v=>match v with
  | .osl h _=>[(r,h)]
  | _=>[]
 | .loc r _,v=>match v with
  | .loc h _=>[(r,h)]
  | _=>[]
 | .clo _ l,v=>match v with
  | .clo _ vs=>pairC l vs
  | _=>[]
 | .agg l,v=>match v with
  | .agg vs=>pairC l vs
  | _=>[]
 | .yld r,v=>match v with
  | .yld h=>[(r,h)]
  | _=>[]
 | .mp r,v=>match v with
  | .mp h=>[(r,h)]
  | _=>[]
 | .lpo r _,v=>match v with
  | .loc h _=>[(r,h)]
  | .lpo _ h _=>[(r,h)]
  | _=>[]
 | .ks r _,v=>match v with
  | .ks h _ _ _=>[(r,h)]
  | _=>[]
 | .sub r _,v=>match v with
  | .sub h _ _ _=>[(r,h)]
  | _=>[]
 | _,_=>[]
def pairC:List Sh→List (TV S)→List (Nat×Nat)
 | x::r,v::vs=>pairV x v++pairC r vs
 | _,_=>[]
end
def look:List (Nat×Nat)→Nat→Option Nat
 | [],_=>none
 | (k,h)::r,j=>bif Nat.beq k j then some h else look r j
def rootsT (st:List (Nat×TO S)):List Oh→Nat→List (Nat×Nat)→Option (List Nat)
 | [],_,_=>some []
 | oh::r,j,ps=>match look ps j with
  | some h=>match rootsT st r (j+1) (match oh with
    | .box _ _ cs=>match oget st h with
     | some (.box _ _ vs)=>ps++pairC cs vs
     | _=>ps
    | .lp _ _ cs=>match oget st h with
     | some (.lp _ _ vs)=>ps++pairC cs vs
     | _=>ps
    | _=>ps) with
   | some hs=>some (h::hs)
   | none=>none
  | none=>none
def newH (s:TSt S) (used:List Nat):Nat→Nat→Nat
 | k,0=>k
 | k,n+1=>bif s.free k&&!(memN k used) then k else newH s used (k+1) n
def wasH (H:List Nat) (j:Nat) (used:List Nat) (h:Nat):Nat:=match Nat.ble 480 j with
 | true=>match H[j-480]? with
  | some h'=>bif Nat.blt h' 1000&&!(memN h' used) then h' else h
  | none=>h
 | false=>h
def bkT (s:TSt S) (H:List Nat) (d:Nat):List Nat→List Nat→Option (List Nat)
 | [],_=>some []
 | j::r,used=>match pinned j with
  | true=>match H[j-1000]? with
   | some h=>match bkT s H d r (h::used) with
    | some hs=>some (h::hs)
    | none=>none
   | none=>none
  | false=>match wasH H j used (bif s.free d&&!(memN d used) then d else newH s used s.nx 8) with
   | h=>match bkT s H d r (h::used) with
    | some hs=>some (h::hs)
    | none=>none
def bkOkT (s:TSt S) (H:List Nat):List Nat→List Nat→Bool
 | [],[]=>true
 | j::r,h::hs=>!(memN j r)&&(!(memN h hs)&&((bif pinned j then hAt H (j-1000) h else Nat.blt h 1000&&((idxH H h).isSome||s.free h))&&bkOkT s H r hs))
 | _,_=>false
theorem keysHas_er {ln:Nat→Nat}{j:Nat}:∀l:List (Nat×TO S),keysHas (erS ln l) j=memN j (keysOf l)
 | []=>rfl
 | (k,o)::r=>by
  simp only[erS,keysHas,keysOf,memN,keysHas_er r]
  cases Nat.beq k j <;> rfl
theorem contains_memN {h:Nat}{l:List Nat}:l.contains h=memN h l:=by
 cases hb:memN h l with
 | true=>exact List.contains_iff_mem.2 (memN_iff.1 hb)
 | false=>
  cases hc:l.contains h with
  | false=>rfl
  | true=>rw[memN_iff.2 (List.contains_iff_mem.1 hc)] at hb;cases hb
theorem bkOkT_ok {s:TSt S}{H:List Nat}{ln:Nat→Nat}:∀{O:List (Nat×TO S)}{bk:List Nat},bkOkT s H (keysOf O) bk=true→bkOk s.er H (erS ln O) bk=true∧ndB bk=true
 | [],[],_=>⟨rfl,rfl⟩
 | (j,o)::r,h::hs,e=>by
  simp only[keysOf,bkOkT,Bool.and_eq_true,Bool.not_eq_true'] at e
  obtain⟨e1,e2,e3,e4⟩:=e
  obtain⟨i1,i2⟩:=bkOkT_ok (ln:=ln) e4
  refine⟨?_,?_⟩
  ·simp only[erS,bkOk,keysHas_er,contains_memN,e1,e2,i1,Bool.not_false,Bool.and_true,Bool.true_and]
   cases hp:pinned j with
   | true=>rw[hp] at e3;exact e3
   | false=>
    rw[hp] at e3
    simp only[cond_false,Bool.and_eq_true,Bool.or_eq_true] at e3⊢
    exact⟨e3.1,e3.2.imp id free_fresh⟩
  ·simp only[ndB,contains_memN,e2,i2,Bool.not_false,Bool.and_true]
 | [],_::_,e=>by cases e
 | _::_,[],e=>by cases e
theorem bkOkT_mem {s:TSt S}{H:List Nat}:∀{js bk:List Nat},bkOkT s H js bk=true→∀k,k∈bk→k∈H∨s.free k=true
 | [],[],_,k,hk=>by cases hk
 | j::r,h::hs,e,k,hk=>by
  simp only[bkOkT,Bool.and_eq_true] at e
  obtain⟨_,_,e3,e4⟩:=e
  rcases List.mem_cons.1 hk with rfl | hk
  ·cases hp:pinned j with
   | true=>rw[hp] at e3;exact .inl (List.mem_of_getElem? (hAt_eq e3))
   | false=>
    rw[hp] at e3
    simp only[cond_false,Bool.and_eq_true,Bool.or_eq_true] at e3
    rcases e3.2 with h | h
    ·obtain⟨i,hi⟩:=Option.isSome_iff_exists.1 h
     exact .inl (List.mem_of_getElem? (idxH_some hi))
    ·exact .inr h
  ·exact bkOkT_mem e4 k hk
 | [],_::_,e,_,_=>by cases e
 | _::_,[],e,_,_=>by cases e
def deadsT (js:List Nat):List Nat→Nat→List Nat
 | [],_=>[]
 | h::r,i=>bif memN (1000+i) js then deadsT js r (i+1) else h::deadsT js r (i+1)
theorem deads_er {ln:Nat→Nat}{O:List (Nat×TO S)}:∀(H:List Nat) (i:Nat),deads (erS ln O) H i=deadsT (keysOf O) H i
 | [],_=>rfl
 | h::r,i=>by simp only[deads,deadsT,keysHas_er,deads_er r (i+1)]
def anyT:List Nat→TV S→Bool
 | [],_=>false
 | h::r,v=>v.has h||anyT r v
theorem any_er (ln:Nat→Nat) (v:TV S):∀ds:List Nat,anyH ds (v.er ln)=anyT ds v
 | []=>rfl
 | h::r=>by simp only[anyH,anyT,has_er,any_er ln v r]
def deadF (ds:List Nat):List (Nat×TV S)→List (Nat×TV S)
 | []=>[]
 | (t,v)::r=>(t,bif anyT ds v then .any else v)::deadF ds r
def cleanL (ds:List Nat):List (TV S)→Bool
 | []=>true
 | v::r=>!(anyT ds v)&&cleanL ds r
def cleanF (ds:List Nat):List (Nat×TV S)→Bool
 | []=>true
 | (_,v)::r=>!(anyT ds v)&&cleanF ds r
def cleanS (ds:List Nat):List (Nat×TO S)→Bool
 | []=>true
 | (_,.box _ _ cs)::r=>cleanL ds cs&&cleanS ds r
 | (_,.arr ..)::r=>cleanS ds r
 | (_,.deep ..)::r=>cleanS ds r
 | (_,.lp _ _ cs)::r=>cleanL ds cs&&cleanS ds r
def cleanY (ds:List Nat):List (Nat×TO S)→Bool
 | []=>true
 | (_,.box _ _ _)::r=>cleanY ds r
 | (_,.arr ..)::r=>cleanY ds r
 | (_,.deep ..)::r=>cleanY ds r
 | (_,.lp _ _ cs)::r=>cleanL ds cs&&cleanY ds r
def cleanZ (ds:List Nat) (a b:List (Nat×TO S)):Bool:=cleanY ds a&&cleanS ds b
def deadT (ds:List Nat):List (TV S)→List (TV S)
 | []=>[]
 | v::r=>(bif anyT ds v then .any else v)::deadT ds r
def deadTO (ds:List Nat):TO S→TO S
 | .box e m cs=>.box e m (deadT ds cs)
 | o=>o
def deadO (ds:List Nat):List (Nat×TO S)→List (Nat×TO S)
 | []=>[]
 | (h,o)::r=>(h,deadTO ds o)::deadO ds r
def outO (H:List Nat):List (Nat×TO S)→List (Nat×TO S)
 | []=>[]
 | (h,o)::r=>match idxH H h with
  | some _=>outO H r
  | none=>(h,o)::outO H r
def lensOk (s:TSt S) (sb:List (Nat×TO S)){A:Type}:List Nat→Option A→Option A
 | [],k=>k
 | h::r,k=>match oget sb h with
  | none=>lensOk s sb r k
  | some o'=>match oget s.stA h with
   | some (.arr _ _ _ τ l)=>match o' with
    | .arr _ _ _ τ' l'=>bif Nat.beq (List.length l') (List.length l) then lensOk s sb r k else none
    | _=>none
   | some (.box _ _ _)=>match o' with
    | .box _ _ _=>lensOk s sb r k
    | _=>none
   | some (.lp _ _ _)=>match o' with
    | .lp _ _ _=>lensOk s sb r k
    | _=>none
   | some (.deep _ _ _ _ τ l)=>match o' with
    | .deep _ _ _ _ τ' l'=>bif Nat.beq (tlen τ' l') (tlen τ l) then lensOk s sb r k else none
    | _=>none
   | _=>none
theorem lensOk_ok {s:TSt S}{sb:List (Nat×TO S)}{A:Type}{k:Option A}{r:A}:∀{H:List Nat},lensOk s sb H k=some r→k=some r∧∀h,h∈H→∀o',oget sb h=some o'→o'.len=s.ln h
 | [],e=>⟨e,fun h hm=>by cases hm⟩
 | h0::hs,e=>by
  simp only[lensOk] at e
  split at e
  ·rename_i hn
   obtain⟨i1,i2⟩:=lensOk_ok e
   refine⟨i1,fun h hm o' ho=>?_⟩
   rcases List.mem_cons.1 hm with rfl | hm
   ·rw[hn] at ho;cases ho
   ·exact i2 h hm o' ho
  ·rename_i o1 ho1
   split at e
   ·rename_i a b c τ l hs1
    split at e
    ·rename_i τ' l'
     cases hb:Nat.beq (List.length l') (List.length l) with
     | false=>rw[hb] at e;cases e
     | true=>
      rw[hb] at e
      obtain⟨i1,i2⟩:=lensOk_ok e
      refine⟨i1,fun h hm o' ho=>?_⟩
      rcases List.mem_cons.1 hm with rfl | hm
      ·rw[ho1] at ho
       cases ho
       unfold TSt.ln lnO
       rw[hs1]
       exact Nat.eq_of_beq_eq_true hb
      ·exact i2 h hm o' ho
    ·cases e
   ·rename_i a b c hs1
    split at e
    ·obtain⟨i1,i2⟩:=lensOk_ok e
     refine⟨i1,fun h hm o' ho=>?_⟩
     rcases List.mem_cons.1 hm with rfl | hm
     ·rw[ho1] at ho
      cases ho
      unfold TSt.ln lnO
      rw[hs1]
      rfl
     ·exact i2 h hm o' ho
    ·cases e
   ·rename_i a b c hs1
    split at e
    ·obtain⟨i1,i2⟩:=lensOk_ok e
     refine⟨i1,fun h hm o' ho=>?_⟩
     rcases List.mem_cons.1 hm with rfl | hm
     ·rw[ho1] at ho
      cases ho
      unfold TSt.ln lnO
      rw[hs1]
      rfl
     ·exact i2 h hm o' ho
    ·cases e
   ·rename_i a b c dk τ l hs1
    split at e
    ·rename_i τ' l'
     cases hb:Nat.beq (tlen τ' l') (tlen τ l) with
     | false=>rw[hb] at e;cases e
     | true=>
      rw[hb] at e
      obtain⟨i1,i2⟩:=lensOk_ok e
      refine⟨i1,fun h hm o' ho=>?_⟩
      rcases List.mem_cons.1 hm with rfl | hm
      ·rw[ho1] at ho
       cases ho
       unfold TSt.ln lnO
       rw[hs1]
       exact Nat.eq_of_beq_eq_true hb
      ·exact i2 h hm o' ho
    ·cases e
   ·cases e
theorem sb_keys {vw A:Bool}{f:Nat→Option Nat}{gst:List (Nat×Blk)}:∀{outs:List (Nat×TO S)}{bk:List Nat}{sb:List (Nat×TO S)},backT vw f A gst outs bk=some sb→keysOf sb=bk
 | [],[],sb,h=>by cases h;rfl
 | (j,o)::r,h0::hs,sb,h=>by
  simp only[backT] at h
  cases o with
  | lp p n cs=>
   dsimp only at h
   split at h
   ·split at h
    ·rename_i r' hr;cases h;simp only[keysOf,sb_keys hr]
    ·cases h
   ·cases h
  | arr e m b τ l=>
   dsimp only at h
   split at h
   ·split at h
    ·rename_i r' hr;cases h;simp only[keysOf,sb_keys hr]
    ·cases h
   ·cases h
  | deep e m b dk τ l=>
   dsimp only at h
   split at h
   ·split at h
    ·rename_i r' hr;cases h;simp only[keysOf,sb_keys hr]
    ·cases h
   ·cases h
  | box e m cs=>
   dsimp only at h
   split at h
   ·split at h
    ·rename_i r' hr;cases h;simp only[keysOf,sb_keys hr]
    ·cases h
   ·cases h
 | [],_::_,_,h=>by cases h
 | _::_,[],_,h=>by cases h
theorem outO_get {H:List Nat}{h:Nat}(hi:idxH H h=none):∀{st:List (Nat×TO S)},oget (outO H st) h=oget st h
 | []=>rfl
 | (x,o)::r=>by
  simp only[outO]
  cases hx:idxH H x with
  | some i=>
   simp only[]
   rw[outO_get hi]
   refine(oget_cons_other o r fun e=>?_).symm
   subst e;rw[hi] at hx;cases hx
  | none=>
   simp only[oget]
   rw[outO_get hi]
theorem outO_er {H:List Nat}{ln:Nat→Nat}:∀st:List (Nat×TO S),outSt H (erS ln st)=erS ln (outO H st)
 | []=>rfl
 | (x,o)::r=>by
  simp only[erS,outSt,outO]
  cases idxH H x with
  | some i=>exact outO_er r
  | none=>simp only[erS,outO_er r]
theorem outO_app {H:List Nat}:∀(a b:List (Nat×TO S)),outO H (a++b)=outO H a++outO H b
 | [],_=>rfl
 | (x,o)::r,b=>by
  simp only[List.cons_append,outO]
  cases idxH H x with
  | some i=>exact outO_app r b
  | none=>simp only[List.cons_append,outO_app r b]
theorem outO_id {H:List Nat}:∀{l:List (Nat×TO S)},apart (keysOf l) H=true→outO H l=l
 | [],_=>rfl
 | (x,o)::r,e=>by
  have h1:=apart_spec e
  simp only[outO]
  have:idxH H x=none:=by
   cases hx:idxH H x with
   | none=>rfl
   | some i=>exact absurd (List.mem_of_getElem? (idxH_some hx)) (h1 x (by simp[keysOf]))
  rw[this]
  simp only[]
  rw[outO_id]
  simp only[keysOf,apart] at e
  split at e
  ·cases e
  ·exact e
def backTS (s:TSt S) (H ds:List Nat) (sb:List (Nat×TO S)) (n:Nat):TSt S:={fr:=deadF ds s.fr,lo:=s.lo,st:=sb++deadO ds (outO H s.st),lst:=s.lst,df:=s.df,nx:=s.nx+n,last:=[]}
theorem oget_deadO {ds:List Nat}{k:Nat}:∀{l:List (Nat×TO S)},oget (deadO ds l) k=(oget l k).map (deadTO ds)
 | []=>rfl
 | (h,o)::r=>by
  simp only[deadO,oget]
  cases Nat.beq h k with
  | true=>rfl
  | false=>exact oget_deadO
theorem deadTO_len {ds:List Nat}(o:TO S):(deadTO ds o).len=o.len:=by cases o <;> rfl
theorem lensA {s:TSt S}{H js bk ds:List Nat}{sb:List (Nat×TO S)}{n:Nat}(hb:bkOkT s H js bk=true) (hk:keysOf sb=bk) (hH:apart H (keysOf s.lst)=true) (hl:∀h,h∈H→h∉ds→∀o',oget sb h=some o'→o'.len=s.ln h)
  (hd:∀h,h∈H→h∉ds→h∈bk) (k:Nat) (h1:k∉ds) (h2:s.free k=false∨k∈H):(backTS s H ds sb n).ln k=s.ln k:=by
 unfold TSt.ln
 have key:∀o,oget sb k=some o→lnO (sb++deadO ds (outO H s.st)++s.lst) k=o.len:=by
  intro o ho
  unfold lnO
  rw[List.append_assoc,oget_appA,ho]
 show lnO (sb++deadO ds (outO H s.st)++s.lst) k=lnO s.stA k
 by_cases hkH:k∈H
 ·have hkb:=hd k hkH h1
  rw[←hk] at hkb
  obtain⟨o,ho⟩:=oget_of_keys hkb
  rw[key o ho]
  exact hl k hkH h1 o ho
 ·have hkb:k∉bk:=fun hm=>by
   rcases bkOkT_mem hb k hm with h | h
   ·exact hkH h
   ·rcases h2 with h2 | h2
    ·rw[h2] at h;cases h
    ·exact hkH h2
  have hi:idxH H k=none:=by
   cases hx:idxH H k with
   | none=>rfl
   | some i=>exact absurd (List.mem_of_getElem? (idxH_some hx)) hkH
  unfold lnO
  rw[List.append_assoc,oget_appA,oget_none_of (by rw[hk];exact hkb),oget_appA,oget_deadO,outO_get hi]
  unfold TSt.stA
  rw[oget_appA]
  cases oget s.st k with
  | none=>rfl
  | some o=>exact deadTO_len o
theorem anyT_mem {ds:List Nat}{v:TV S}(h:anyT ds v=false):∀k,v.has k=true→k∉ds:=by
 induction ds with
 | nil=>intro k _ hm;cases hm
 | cons x r ih=>
  simp only[anyT,Bool.or_eq_false_iff] at h
  intro k hk hm
  rcases List.mem_cons.1 hm with rfl | hm
  ·rw[h.1] at hk;cases hk
  ·exact ih h.2 k hk hm
theorem deadF_er {ds:List Nat}{ln ln':Nat→Nat}:∀{fr:List (Nat×TV S)},(∀k,k∉ds→frHas k fr=true→ln' k=ln k)→erF ln' (deadF ds fr)=deadFr ds (erF ln fr)
 | [],_=>rfl
 | (t,v)::r,h=>by
  simp only[deadF,erF,deadFr,deadG,any_er]
  rw[deadF_er fun k h1 h2=>h k h1 (by simp[frHas,h2])]
  cases ha:anyT ds v with
  | true=>rfl
  | false=>
   simp only[cond_false]
   rw[er_congr v fun k hk=>h k (anyT_mem ha k hk) (by simp[frHas,hk])]
theorem cleanF_er {ds:List Nat}:∀{fr:List (Nat×TV S)},cleanF ds fr=true→deadF ds fr=fr
 | [],_=>rfl
 | (t,v)::r,h=>by
  simp only[cleanF,Bool.and_eq_true,Bool.not_eq_true'] at h
  simp only[deadF,h.1,cond_false,cleanF_er h.2]
theorem deadF_app {ds:List Nat}:∀(a b:List (Nat×TV S)),deadF ds (a++b)=deadF ds a++deadF ds b
 | [],_=>rfl
 | (t,v)::r,b=>by simp only[List.cons_append,deadF,deadF_app r b]
theorem deadL_er {ds:List Nat}{ln ln':Nat→Nat}:∀{l:List (TV S)},cleanL ds l=true→(∀k,k∉ds→TV.has.go k l=true→ln' k=ln k)→TV.er.go ln' l=(TV.er.go ln l).map (deadG ds)
 | [],_,_=>rfl
 | v::r,e,h=>by
  simp only[cleanL,Bool.and_eq_true,Bool.not_eq_true'] at e
  simp only[TV.er.go,List.map_cons,deadG,any_er,e.1,cond_false]
  rw[er_congr (ln':=ln) v fun k hk=>h k (anyT_mem e.1 k hk) (by simp[TV.has.go,hk]),deadL_er e.2 fun k h1 h2=>h k h1 (by simp[TV.has.go,h2])]
theorem deadS_er {ds:List Nat}{ln ln':Nat→Nat}:∀{st:List (Nat×TO S)},cleanS ds st=true→(∀k,k∉ds→stHas k st=true→ln' k=ln k)→erS ln' st=deadSt ds (erS ln st)
 | [],_,_=>rfl
 | (x,.arr e m f τ l)::r,hc,h=>by
  simp only[cleanS] at hc
  simp only[erS,deadSt,TO.er,deadB,cond_true]
  rw[deadS_er hc fun k h1 h2=>h k h1 (by simp[stHas,h2])]
 | (x,.deep e m f dk τ l)::r,hc,h=>by
  simp only[cleanS] at hc
  simp only[erS,deadSt,TO.er,deadB,cond_true]
  rw[deadS_er hc fun k h1 h2=>h k h1 (by simp[stHas,h2])]
 | (x,.box e m cs)::r,hc,h=>by
  simp only[cleanS,Bool.and_eq_true] at hc
  simp only[erS,deadSt,TO.er,deadB,cond_false]
  rw[deadS_er hc.2 fun k h1 h2=>h k h1 (by simp[stHas,h2]),deadL_er hc.1 fun k h1 h2=>h k h1 (by simp[stHas,TO.has,h2])]
 | (x,.lp p n cs)::r,hc,h=>by
  simp only[cleanS,Bool.and_eq_true] at hc
  simp only[erS,deadSt,TO.er,deadB,cond_false]
  rw[deadS_er hc.2 fun k h1 h2=>h k h1 (by simp[stHas,h2]),deadL_er hc.1 fun k h1 h2=>h k h1 (by simp[stHas,TO.has,h2])]
theorem deadTL_er {ds:List Nat}{ln ln':Nat→Nat}:∀{l:List (TV S)},(∀k,k∉ds→TV.has.go k l=true→ln' k=ln k)→TV.er.go ln' (deadT ds l)=(TV.er.go ln l).map (deadG ds)
 | [],_=>rfl
 | v::r,h=>by
  simp only[deadT,TV.er.go,List.map_cons,deadG,any_er]
  rw[deadTL_er fun k h1 h2=>h k h1 (by simp[TV.has.go,h2])]
  cases ha:anyT ds v with
  | true=>rfl
  | false=>
   simp only[cond_false]
   rw[er_congr v fun k hk=>h k (anyT_mem ha k hk) (by simp[TV.has.go,hk])]
theorem deadY_er {ds:List Nat}{ln ln':Nat→Nat}:∀{st:List (Nat×TO S)},cleanY ds st=true→(∀k,k∉ds→stHas k st=true→ln' k=ln k)→erS ln' (deadO ds st)=deadSt ds (erS ln st)
 | [],_,_=>rfl
 | (x,.arr e m f τ l)::r,hc,h=>by
  simp only[cleanY] at hc
  simp only[erS,deadO,deadTO,deadSt,TO.er,deadB,cond_true]
  rw[deadY_er hc fun k h1 h2=>h k h1 (by simp[stHas,h2])]
 | (x,.deep e m f dk τ l)::r,hc,h=>by
  simp only[cleanY] at hc
  simp only[erS,deadO,deadTO,deadSt,TO.er,deadB,cond_true]
  rw[deadY_er hc fun k h1 h2=>h k h1 (by simp[stHas,h2])]
 | (x,.box e m cs)::r,hc,h=>by
  simp only[cleanY] at hc
  simp only[erS,deadO,deadTO,deadSt,TO.er,deadB,cond_false]
  rw[deadY_er hc fun k h1 h2=>h k h1 (by simp[stHas,h2]),deadTL_er fun k h1 h2=>h k h1 (by simp[stHas,TO.has,h2])]
 | (x,.lp p n cs)::r,hc,h=>by
  simp only[cleanY,Bool.and_eq_true] at hc
  simp only[erS,deadO,deadTO,deadSt,TO.er,deadB,cond_false]
  rw[deadY_er hc.2 fun k h1 h2=>h k h1 (by simp[stHas,h2]),deadL_er hc.1 fun k h1 h2=>h k h1 (by simp[stHas,TO.has,h2])]
theorem stHas_outO {H:List Nat}{k:Nat}:∀{st:List (Nat×TO S)},stHas k (outO H st)=true→stHas k st=true
 | [],h=>h
 | (x,o)::r,h=>by
  simp only[outO] at h
  simp only[stHas,Bool.or_eq_true]
  split at h
  ·exact .inr (stHas_outO h)
  ·simp only[stHas,Bool.or_eq_true] at h
   exact h.imp id stHas_outO
theorem erS_appA (ln:Nat→Nat):∀(a b:List (Nat×TO S)),erS ln (a++b)=erS ln a++erS ln b
 | [],_=>rfl
 | (x,o)::r,b=>by simp only[List.cons_append,erS,erS_appA ln r b]
theorem stHas_appA (k:Nat):∀(a b:List (Nat×TO S)),stHas k (a++b)=(stHas k a||stHas k b)
 | [],b=>rfl
 | (_,o)::r,b=>by simp only[List.cons_append,stHas,stHas_appA k r b,Bool.or_assoc]
theorem deadSt_app {ds:List Nat}:∀(a b:List (Nat×Blk)),deadSt ds (a++b)=deadSt ds a++deadSt ds b
 | [],_=>rfl
 | (h,k)::r,b=>by simp only[List.cons_append,deadSt,deadSt_app r b]
def named (s:TSt S) (k:Nat):Bool:=frHas k s.frA||(stHas k s.stA||TV.has.go k s.df)
theorem named_free {s:TSt S}{k:Nat}(h:named s k=true):s.free k=false:=by
 cases hf:s.free k with
 | false=>rfl
 | true=>
  obtain⟨_,h2,h3,h4,_⟩:=free_spec hf
  unfold named at h
  rw[h2,h3,h4] at h
  cases h
theorem backTS_er {s:TSt S}{H js bk ds:List Nat}{sb:List (Nat×TO S)}{n:Nat}(hb:bkOkT s H js bk=true) (hk:keysOf sb=bk) (hH:apart H (keysOf s.lst)=true) (hl:∀h,h∈H→h∉ds→∀o',oget sb h=some o'→o'.len=s.ln h)
  (hd:∀h,h∈H→h∉ds→h∈bk) (c1:cleanF ds s.lo=true) (c2:cleanZ ds (outO H s.st) s.lst=true) (c3:cleanL ds s.df=true):
  (backTS s H ds sb n).er=⟨deadFr ds s.er.fr,erS (backTS s H ds sb n).ln sb++deadSt ds (outSt H s.er.st),s.er.df⟩:=by
 have key:∀k,k∉ds→named s k=true→(backTS s H ds sb n).ln k=s.ln k:=fun k h1 h2=>lensA hb hk hH hl hd k h1 (.inl (named_free h2))
 have e1:erF (backTS s H ds sb n).ln (backTS s H ds sb n).frA=deadFr ds s.er.fr:=by
  show erF _ (deadF ds s.fr++s.lo)=deadFr ds (erF s.ln (s.fr++s.lo))
  rw[←cleanF_er c1,←deadF_app]
  rw[cleanF_er c1]
  exact deadF_er fun k h1 h2=>key k h1 (by unfold named TSt.frA;rw[h2];rfl)
 have hap:apart (keysOf s.lst) H=true:=by
  have h:=apart_spec hH
  have:∀(l:List Nat),(∀x,x∈l→x∉H)→apart l H=true:=by
   intro l
   induction l with
   | nil=>intro _;rfl
   | cons x r ih=>
    intro hh
    simp only[apart]
    cases hm:memN x H with
    | true=>exact absurd (memN_iff.1 hm) (hh x List.mem_cons_self)
    | false=>exact ih fun y hy=>hh y (List.mem_cons_of_mem _ hy)
  exact this _ fun x hx hxH=>h x hxH hx
 have e2:erS (backTS s H ds sb n).ln (backTS s H ds sb n).stA=erS (backTS s H ds sb n).ln sb++deadSt ds (outSt H s.er.st):=by
  show erS _ ((sb++deadO ds (outO H s.st))++s.lst)=_++deadSt ds (outSt H (erS s.ln (s.st++s.lst)))
  rw[List.append_assoc,erS_appA,outO_er,outO_app,outO_id hap]
  congr 1
  rw[erS_appA,erS_appA,deadSt_app]
  have c2:cleanY ds (outO H s.st)=true∧cleanS ds s.lst=true:=by simpa only[cleanZ,Bool.and_eq_true] using c2
  have go:∀k,k∉ds→stHas k (outO H s.st++s.lst)=true→(backTS s H ds sb n).ln k=s.ln k:=fun k h1 h2=>key k h1 (by
   have:stHas k s.stA=true:=by
    refine stHas_outO (H:=H) ?_
    unfold TSt.stA
    rw[outO_app,outO_id hap]
    exact h2
   unfold named
   rw[this];simp)
  rw[deadY_er c2.1 fun k h1 h2=>go k h1 (by rw[stHas_appA,h2];rfl),deadS_er c2.2 fun k h1 h2=>go k h1 (by rw[stHas_appA,h2,Bool.or_true])]
 have e3:TV.er.go (backTS s H ds sb n).ln s.df=TV.er.go s.ln s.df:=by
  refine er_congrL _ fun k hk=>?_
  have hnd:∀(l:List (TV S)),cleanL ds l=true→TV.has.go k l=true→k∉ds:=by
   intro l
   induction l with
   | nil=>intro _ h;cases h
   | cons x r ih=>
    intro h1 h2
    simp only[cleanL,Bool.and_eq_true,Bool.not_eq_true'] at h1
    simp only[TV.has.go,Bool.or_eq_true] at h2
    rcases h2 with h2 | h2
    ·exact anyT_mem h1.1 k h2
    ·exact ih h1.2 h2
  exact key k (hnd _ c3 hk) (by unfold named;rw[hk];simp)
 show St.mk _ _ _=St.mk _ _ _
 rw[e1,e2]
 exact congrArg _ e3
end
end Go.DN
/-
 DN,part Z:calls by contract.
-/
namespace Go.DN
open Go.AM
section
variable {S:Sig}
def okAll (ok:Nat→Bool):List Nat→Bool
 | []=>true
 | h::r=>ok h&&okAll ok r
theorem okAll_in {ok:Nat→Bool}{W:List Nat}(hW:∀h,ok h=true→W.contains h=true):∀{H:List Nat},okAll ok H=true→allIn H W=true
 | [],_=>rfl
 | h::r,e=>by
  simp only[okAll,Bool.and_eq_true] at e
  have:=okAll_in hW e.2
  unfold allIn at this⊢
  simp only[List.all_cons,this,hW h e.1,Bool.and_self]
def outsC (con:Con S) (r:tup S.α (JH.tys ⟨con.slots,con.outs⟩)):List (Nat×TO S):=(fillS con.outs (fillF con.slots (leaves _ r)).2).1
def backC (s:TSt S) (H:List Nat) (con:Con S) (r:tup S.α (JH.tys ⟨con.slots,con.outs⟩)) (bk:List Nat):Option (List (Nat×TO S)):=
 backT con.vw (bkH (erS (lnO (outsC con r)) (outsC con r)) bk) (mineAll s.er.st (erS (lnO (outsC con r)) (outsC con r)) H 0) s.er.st (outsC con r) bk
def renC (con:Con S) (r:tup S.α (JH.tys ⟨con.slots,con.outs⟩)) (bk:List Nat):Option (TV S):=
 (resV con.slots (leaves _ r)).ren con.vw (bkH (erS (lnO (outsC con r)) (outsC con r)) bk)
def fitL (s:TSt S) (H ds:List Nat) (js bk:List Nat):Bool:=
 bkOkT s H js bk&&(within (minus H ds) bk&&(cleanF ds s.lo&&(cleanZ ds (outO H s.st) s.lst&&cleanL ds s.df)))
where minus (H ds:List Nat):List Nat:=match H with
 | []=>[]
 | h::r=>bif memN h ds then minus r ds else h::minus r ds
theorem minus_mem {ds:List Nat}:∀{H:List Nat}{h:Nat},h∈H→h∉ds→h∈fitL.minus H ds
 | x::r,h,hm,hd=>by
  simp only[fitL.minus]
  cases hb:memN x ds with
  | true=>
   rw[cond_true]
   rcases List.mem_cons.1 hm with rfl | hm
   ·exact absurd (memN_iff.1 hb) hd
   ·exact minus_mem hm hd
  | false=>
   rw[cond_false]
   rcases List.mem_cons.1 hm with rfl | hm
   ·exact List.mem_cons_self
   ·exact List.mem_cons_of_mem _ (minus_mem hm hd)
def callL (ok:Nat→Bool) (con:Con S) (s:TSt S) (d:Nat) (vs:List (TV S)){A:Type}(k:TSt S→Option A):Option A:=
 match rootsT s.stA con.objs 1000 (pairC con.args vs) with
 | some H=>match ndB H&&(okAll ok H&&apart H (keysOf s.lst)) with
  | true=>match lendSL s con.vw H con.args vs with
   | some xs=>match lendOs s con.vw H H con.objs with
    | some ys=>match tupOf (begTys con.args con.objs) (xs++ys) with
     | some q=>(con.F q).bind fun r=>match bkT s H d (keysOf con.outs) [] with
      | some bk=>match fitL s H (deadsT (keysOf con.outs) H 0) (keysOf con.outs) bk with
       | true=>match backC s H con r bk with
        | some sb=>match renC con r bk with
         | some rv=>lensOk s sb (fitL.minus H (deadsT (keysOf con.outs) H 0)) (k ((backTS s H (deadsT (keysOf con.outs) H 0) sb con.outs.length).put d rv))
         | none=>none
        | none=>none
       | false=>none
      | none=>none
     | none=>none
    | none=>none
   | none=>none
  | false=>none
 | none=>none
theorem keys_outsC (con:Con S) (r:tup S.α (JH.tys ⟨con.slots,con.outs⟩)):keysOf (outsC con r)=keysOf con.outs:=fillS_keys _ _
theorem cleanL_all {ln:Nat→Nat}{ds:List Nat}:∀{l:List (TV S)},cleanL ds l=true→(TV.er.go ln l).all (fun g=>!(anyH ds g))=true
 | [],_=>rfl
 | v::r,e=>by
  simp only[cleanL,Bool.and_eq_true,Bool.not_eq_true'] at e
  simp only[TV.er.go,List.all_cons,any_er,e.1,cleanL_all e.2,Bool.not_false,Bool.and_self]
theorem callL_ok {P:Program}{W:List Nat}{ok:Nat→Bool}(hW:∀h,ok h=true→W.contains h=true){con:Con S}(C:ConOk P con){s:TSt S}{d:Nat}{vs:List (TV S)}{A:Type}{k:TSt S→Option A}{r:A}(hl:LInv s) (h:callL ok con s d vs k=some r)
  {o:Oper}(heff:∀{gs':List G}{stC:List (Nat×Blk)}{Q:G→List (Nat×Blk)→Prop}{T:St→Prop}(H:List Nat) (vw:Bool),lendG.go H (lendV s.er.st H vw) (TV.er.go s.ln vs)=some gs'→lendSt H (lendV s.er.st H vw) s.er.st H 0=some stC→ndB H=true→GM P con.f gs' stC Q→
   (∀r st',Q r st'→∃bk s2 r',backS vw s.er H st' bk=some s2∧renG vw (bkH st' bk) r=some r'∧T (s2.put d r'))→allIn H W=true→Effect P W s.er o T):
  ∃T:St→Prop,Effect P W s.er o T∧∀s',T s'→∃t:TSt S,Gh s' t.er∧LInv t∧Keep s t∧k t=some r:=by
 unfold callL at h
 split at h
 ·rename_i H hH
  split at h
  ·rename_i hc
   simp only[Bool.and_eq_true] at hc
   obtain⟨c1,c2,c3⟩:=hc
   split at h
   ·rename_i xl hx
    split at h
    ·rename_i yl hy
     split at h
     ·rename_i q hq
      have hlq:=leaves_tupOf hq
      have hrest:(fillC con.args (leaves _ q)).2=yl:=by
       rw[hlq]
       exact(lendSL_ok (lnC:=fun k=>s.ln ((H[k-1000]?).getD 0)) (fun i h hi=>by simp[idxH_some hi]) hx yl).1
      have hst:(beginT con.args con.objs (leaves _ q)).stA=(fillS (zipN con.objs 1000) yl).1:=by
       show(fillS (zipN con.objs 1000) (fillC con.args (leaves _ q)).2).1++[]=_
       rw[List.append_nil,hrest]
      obtain⟨o1,o2,o3⟩:=lendOs_ok 0 hy []
      rw[List.append_nil] at o1 o2 o3
      have hln:∀i h,idxH H h=some i→(beginT con.args con.objs (leaves _ q)).ln (1000+i)=s.ln h:=by
       intro i h hi
       have:=o2 i h (idxH_some hi)
       rw[Nat.zero_add] at this
       unfold TSt.ln
       rw[hst]
       exact this
      have hargs:=(lendSL_ok hln hx yl).2
      rw[←hlq] at hargs
      have hobjs:=o3 _ hln
      have hst2:(beginT con.args con.objs (leaves _ q)).er.st=erS (beginT con.args con.objs (leaves _ q)).ln (fillS (zipN con.objs 1000) yl).1:=by
       show erS _ _=_
       rw[hst]
      refine⟨fun s'=>∃t:TSt S,Gh s' t.er∧LInv t∧Keep s t∧k t=some r,?_,fun s' h=>h⟩
      obtain⟨res,h1,h2⟩:=bind_some h
      refine heff (stC:=(beginT con.args con.objs (leaves _ q)).er.st) H con.vw hargs (by rw[hst2];exact hobjs) c1 (C.ok q res h1) ?_ (okAll_in hW c2)
      rintro g st' ⟨rfl,rfl⟩
      split at h2
      ·rename_i bk hbk
       split at h2
       ·rename_i hf
        simp only[fitL,Bool.and_eq_true] at hf
        obtain⟨f1,f2,f3,f4,f5⟩:=hf
        split at h2
        ·rename_i sb hsb
         split at h2
         ·rename_i rv hrv
          obtain⟨k1,k2⟩:=lensOk_ok h2
          have hkeys:keysOf sb=bk:=sb_keys hsb
          have hd:∀h,h∈H→h∉deadsT (keysOf con.outs) H 0→h∈bk:=fun h h1 h2=>within_spec f2 h (minus_mem h1 h2)
          have her:=backTS_er (n:=con.outs.length) f1 hkeys c3 (fun h h1 h2=>k2 h (minus_mem h1 h2)) hd f3 f4 f5
          have f1':=f1
          rw[←keys_outsC con res] at f1'
          obtain⟨b1,b2⟩:=bkOkT_ok (ln:=lnO (outsC con res)) f1'
          have hlnB:∀a b,bkH (erS (lnO (outsC con res)) (outsC con res)) bk a=some b→(backTS s H (deadsT (keysOf con.outs) H 0) sb con.outs.length).ln b=lnO (outsC con res) a:=by
           intro a b hab
           obtain⟨_,o,o',g1,g2,g3⟩:=backT_get hsb b2 a b hab
           unfold TSt.ln lnO
           show(match oget ((sb++deadO _ (outO H s.st))++s.lst) b with | some o=>o.len | none=>0)=_
           rw[List.append_assoc,oget_appA,g2,g1]
           exact g3
          have hds:deads (erS (lnO (outsC con res)) (outsC con res)) H 0=deadsT (keysOf con.outs) H 0:=by rw[deads_er,keys_outsC]
          refine⟨bk,⟨deadFr (deadsT (keysOf con.outs) H 0) s.er.fr,erS (backTS s H (deadsT (keysOf con.outs) H 0) sb con.outs.length).ln sb++deadSt (deadsT (keysOf con.outs) H 0) (outSt H s.er.st),s.er.df⟩,rv.er (backTS s H (deadsT (keysOf con.outs) H 0) sb con.outs.length).ln,?_,ren_ok hlnB _ _ hrv,_,?_,LInv_nil (t:=(backTS s H (deadsT (keysOf con.outs) H 0) sb con.outs.length).put d rv) rfl,⟨rfl,rfl,rfl⟩,k1⟩
          ·unfold backS
           have hb:backSt con.vw (bkH (erS (lnO (outsC con res)) (outsC con res)) bk) (mineAll s.er.st (erS (lnO (outsC con res)) (outsC con res)) H 0) s.er.st (erS (lnO (outsC con res)) (outsC con res)) bk=some (erS (backTS s H (deadsT (keysOf con.outs) H 0) sb con.outs.length).ln sb):=backT_ok hlnB hsb
           have hdf:s.er.df.all (fun g=>!(anyH (deads (erS (lnO (outsC con res)) (outsC con res)) H 0) g))=true:=by
            rw[hds];exact cleanL_all f5
           show(bif bkOk s.er H (erS (lnO (outsC con res)) (outsC con res)) bk&&s.er.df.all (fun g=>!(anyH (deads (erS (lnO (outsC con res)) (outsC con res)) H 0) g)) then _ else none)=_
           rw[b1,hdf]
           show(match backSt con.vw (bkH (erS (lnO (outsC con res)) (outsC con res)) bk) (mineAll s.er.st (erS (lnO (outsC con res)) (outsC con res)) H 0) s.er.st (erS (lnO (outsC con res)) (outsC con res)) bk with
            | some sb=>some ({fr:=deadFr (deads (erS (lnO (outsC con res)) (outsC con res)) H 0) s.er.fr,st:=sb++deadSt (deads (erS (lnO (outsC con res)) (outsC con res)) H 0) (outSt H s.er.st),df:=s.er.df}:St)
            | none=>none)=_
           rw[hb,hds]
          ·rw[put_er,her]
           exact Gh.refl _
         ·cases h2
        ·cases h2
       ·cases h2
      ·cases h2
     ·cases h
    ·cases h
   ·cases h
  ·cases h
 ·cases h
theorem EF.lendTV {P:Program}{W:List Nat}{s:St}{d:Nat}{ty:TypeId}{pos:String}{after:Array Edge}{guard:Option (Nat×Bool)}{f:FuncId}{x:Operand}{xs:Array Operand}{ts:Array TypeId}{gs caps gs':List G}{stC:List (Nat×Blk)}{Q:G→List (Nat×Blk)→Prop}{T:St→Prop}(H:List Nat) (vw:Bool) (hb:cloOk f xs.toList=true) (hc:∀args w,(callFunc f args).run P w=.ok (.enter f args) w)
  (hf:ev s x=some (.clo f caps)) (hx:evA s xs.toList=some gs) (hv:lendG.go H (lendV s.st H vw) (gs++caps)=some gs') (hl:lendSt H (lendV s.st H vw) s.st H 0=some stC) (hnd:ndB H=true) (hcon:GM P f gs' stC Q)
  (hres:∀r st',Q r st'→∃bk s2 r',backS vw s H st' bk=some s2∧renG vw (bkH st' bk) r=some r'∧T (s2.put d r')) (hW:allIn H W=true):
  Effect P W s ⟨some d,.call ⟨.value x,xs,ts⟩,ty,pos,after,guard⟩ T:=by
 refine⟨(fun _ h=>by cases h),?_⟩
 intro N cx μ a w hr hN K Q' hK
 obtain⟨h1,h2⟩:=evA_get hx
 have hcl:=hr.ev hf
 generalize hav:a.eval x=vf at hcl
 cases hcl with
 | imm h=>cases h
 | clo _ _ us hlu hrc=>
  have hcall:=lend_core (vs:=xs.toList.map a.eval++us) hr hv hl hnd (by simp[h1,hlu]) (fun j g v hg hv=>by
   rw[List.getElem?_append] at hg hv
   rw[List.length_map,←h1] at hv
   split at hg
   ·rename_i hj
    rw[if_pos hj] at hv
    obtain⟨x,hxj,he⟩:=h2 j g hg
    rw[List.getElem?_map,hxj] at hv
    cases hv
    exact hr.ev he
   ·rename_i hj
    rw[if_neg hj] at hv
    exact hrc _ g v hg hv) hcon
  unfold Oper.wp
  have:=run_callV (P:=P) (w:=w) (d:=d) (ty:=ty) (pos:=pos) (after:=after) (guard:=guard) (ts:=ts) hb hc hav
  rw[this]
  refine hcall.mono ?_
  rintro e w' (⟨v,r,st',μ',rfl,hq,hC,hrv⟩ | ⟨_,_,_,_,h,_⟩)
  ·obtain⟨bk,s2,r',hb,hren,hT⟩:=hres r st' hq
   obtain⟨q1,q2,q3,_⟩:=back_rel hr hl (ndB_spec hnd) hC hb
   exact hK _ _ _ w' (q1.put (hN d rfl) (q2 r r' v hrv hren)) hT (q3 W (allIn_spec hW))
  ·exact h.elim
def isSome {α:Type}:Option α→Bool
 | some _=>true
 | none=>false
def plainFit (con:Con S) (s:TSt S) (xs:List Operand) (vs:List (TV S)):Option (TSt S×List (TV S)):=
 match freshS con.slots||TV.imp.go vs with
 | true=>some (s,vs)
 | false=>match fzAll (TV.osls.go vs) s with
  | some s'=>match tevs s' xs with
   | some vs'=>match TV.imp.go vs' with
    | true=>some (s',vs')
    | false=>none
   | none=>none
  | none=>none
def fits (s:TSt S) (xs:List Operand) (vs:List (TV S)) (con:Con S):Bool:=
 match plainC con with
 | true=>match plainFit con s xs vs with
  | some (s',vs')=>isSome (viewTL s' con.args vs')
  | none=>false
 | false=>match rootsT s.stA con.objs 1000 (pairC con.args vs) with
  | some H=>isSome (lendSL s con.vw H con.args vs)&&isSome (lendOs s con.vw H H con.objs)
  | none=>false
def findC (p:Con S→Bool) (f:FuncId):List (Con S)→Option (Con S)
 | []=>none
 | c::r=>match Nat.beq c.f f&&p c with
  | true=>some c
  | false=>findC p f r
theorem findC_ok {p:Con S→Bool}{f:FuncId}:∀{l:List (Con S)}{c:Con S},findC p f l=some c→c∈l∧c.f=f
 | [],_,h=>by cases h
 | x::r,c,h=>by
  simp only[findC] at h
  split at h
  ·rename_i hb
   simp only[Bool.and_eq_true] at hb
   cases h
   exact⟨List.mem_cons_self,Nat.eq_of_beq_eq_true hb.1⟩
  ·obtain⟨h1,h2⟩:=findC_ok h
   exact⟨List.mem_cons_of_mem _ h1,h2⟩
def tevK (s:TSt S) (x:Operand) (xs:List Operand):Option (FuncId×List (TV S)):=match tev s x with
 | some (.clo f caps)=>match cloOk f xs with
  | true=>some (f,caps)
  | false=>none
 | _=>none
theorem tevK_ok {s:TSt S}{x:Operand}{xs:List Operand}{f:FuncId}{caps:List (TV S)}(h:tevK s x xs=some (f,caps)):tev s x=some (.clo f caps)∧cloOk f xs=true:=by
 unfold tevK at h
 split at h
 ·rename_i h1
  split at h
  ·rename_i h2
   cases h
   exact⟨h1,h2⟩
  ·cases h
 ·cases h
def callC (tbl:List (Con S)) (ok:Nat→Bool) (A:Type) (s:TSt S) (dst:Option Nat) (c:Call) (k:TSt S→Option A):Option A:=
 match dst with
 | some d=>match c.callee with
  | .value (.func f)=>match tevs s c.args.toList with
   | some vs=>match findC (fits s c.args.toList vs) f tbl with
    | some con=>match plainC con with
     | true=>match plainFit con s c.args.toList vs with
      | some (s',vs')=>callG con s' d vs' k
      | none=>none
     | false=>callL ok con s d vs k
    | none=>none
   | none=>none
  | .value x=>match tevK s x c.args.toList with
   | some (f,caps)=>match tevs s c.args.toList with
    | some vs=>match findC (fits s [] (vs++caps)) f tbl with
     | some con=>match plainC con with
      | true=>callF con s d (vs++caps) k
      | false=>callL ok con s d (vs++caps) k
     | none=>none
    | none=>none
   | _=>none
  | _=>none
 | none=>none
theorem callC_ok {P:Program}{N:Nat}{tbl:List (Con S)}(ht:∀c∈tbl,ConOk P c):∀(ok:Nat→Bool) (W:List Nat),(∀h,ok h=true→W.contains h=true)→∀(A:Type) (r:A),ClOk0 P N W (callC tbl ok A) r:=by
 intro ok W hW A r s dst c k hl _ h ty pos after guard
 obtain⟨cal,args,ts⟩:=c
 unfold callC at h
 split at h
 ·rename_i d
  dsimp only at h
  split at h
  ·split at h
   ·rename_i vs hv
    split at h
    ·rename_i con hcon
     obtain⟨hm,hf⟩:=findC_ok hcon
     subst hf
     have C:=ht con hm
     split at h
     ·split at h
      ·rename_i s' vs' hp
       unfold plainFit at hp
       split at hp
       ·cases hp
        exact callG_ok (N:=N) C hl h hv
       ·split at hp
        ·rename_i s2 hz
         obtain⟨z1,z2,z3⟩:=fzAll_ok hl hz
         split at hp
         ·rename_i vs2 hv2
          split at hp
          ·cases hp
           exact EfOk.gh z1 z3 (callG_ok (N:=N) C z2 h hv2)
          ·cases hp
         ·cases hp
        ·cases hp
      ·cases h
     ·exact callL_ok hW C hl h fun H vw h1 h2 h3 h4 h5 h6=>EF.lendT H vw C.call (tevs_ok hv).2 h1 h2 h3 h4 h5 h6
    ·cases h
   ·cases h
  ·rename_i x _
   split at h
   ·rename_i f caps hx
    obtain⟨hx,hb⟩:=tevK_ok hx
    split at h
    ·rename_i vs hv
     split at h
     ·rename_i con hcon
      obtain⟨hm,hf⟩:=findC_ok hcon
      subst hf
      have C:=ht con hm
      split at h
      ·exact callV_ok (N:=N) C hl h hx hb hv
      ·exact callL_ok hW C hl h fun H vw h1 h2 h3 h4 h5 h6=>EF.lendTV H vw hb C.call (tev_ok hx) (tevs_ok hv).2 (by rw[←go_append];exact h1) h2 h3 h4 h5 h6
     ·cases h
    ·cases h
   ·cases h
  ·cases h
 ·cases h
def callCl (tbl:List (Con S)) (ok:Nat→Bool){A:Type}(s:TSt S) (d:Nat) (c:Call) (f:FuncId) (caps:List (TV S)) (k:TSt S→Option A):Option A:=
 match tevs s c.args.toList with
 | some vs=>match findC (fits s [] (vs++caps)) f tbl with
  | some con=>match cloOk f c.args.toList with
   | true=>match plainC con with
    | true=>callF con s d (vs++caps) k
    | false=>callL ok con s d (vs++caps) k
   | false=>none
  | none=>none
 | none=>none
def pickN {A:Type}:List FuncId→FuncId→(FuncId→Option A)→Option A
 | [],_,_=>none
 | g::r,f,k=>cond (Nat.beq f g) (k g) (pickN r f k)
theorem pickN_ok {A:Type}{f:FuncId}{k:FuncId→Option A}{r:A}:∀{l:List FuncId},pickN l f k=some r→k f=some r
 | [],h=>by cases h
 | g::l,h=>by
  simp only[pickN] at h
  cases hb:Nat.beq f g with
  | true=>
   rw[hb] at h
   have:=Nat.eq_of_beq_eq_true hb
   subst this
   exact h
  | false=>rw[hb] at h;exact pickN_ok h
def nget:List (Nat×List FuncId)→Nat→Option (List FuncId)
 | [],_=>none
 | (k,h)::r,p=>bif Nat.beq k p then some h else nget r p
def callX (tbl:List (Con S)) (ns:List (Nat×List FuncId)) (ok:Nat→Bool) (A:Type) (s:TSt S) (dst:Option Nat) (c:Call) (k:TSt S→Option A):Option A:=
 match dst with
 | some d=>match nget ns d with
  | some fs=>match c.callee with
   | .value x=>match tev s x with
    | some (.clo f [])=>pickN fs f fun f=>callCl tbl ok s d c f [] k
    | _=>none
   | _=>none
  | none=>callC tbl ok A s (some d) c k
 | none=>none
theorem callX_ok {P:Program}{N:Nat}{tbl:List (Con S)}{ns:List (Nat×List FuncId)}(ht:∀c∈tbl,ConOk P c):∀(ok:Nat→Bool) (W:List Nat),(∀h,ok h=true→W.contains h=true)→∀(A:Type) (r:A),ClOk0 P N W (callX tbl ns ok A) r:=by
 intro ok W hW A r s dst c k hl hy h ty pos after guard
 unfold callX at h
 split at h
 ·rename_i d
  split at h
  ·obtain⟨cal,args,ts⟩:=c
   dsimp only at h
   split at h
   ·rename_i x _
    split at h
    ·rename_i f hx
     have h2:=pickN_ok h
     clear h
     unfold callCl at h2
     split at h2
     ·rename_i vs hv
      split at h2
      ·rename_i con hcon
       obtain⟨hm,hf⟩:=findC_ok hcon
       subst hf
       have C:=ht con hm
       split at h2
       ·rename_i hb
        split at h2
        ·exact callV_ok (N:=N) C hl h2 hx hb hv
        ·exact callL_ok hW C hl h2 fun H vw h1 h2 h3 h4 h5 h6=>EF.lendTV H vw hb C.call (tev_ok hx) (tevs_ok hv).2 (by rw[←go_append];exact h1) h2 h3 h4 h5 h6
       ·cases h2
      ·cases h2
     ·cases h2
    ·cases h
   ·cases h
  ·exact callC_ok (N:=N) ht ok W hW A r s (some d) c k hl hy h ty pos after guard
 ·cases h
def clP (tbl:List (Con S)) (ns:List (Nat×List FuncId)):Cl S where
 call:=fun ok A _ s dst c k=>match isY s c with
  | true=>none
  | false=>callX tbl ns ok A s dst c k
 rf:=fun _ _ _ _ _ _=>none
theorem clP_ok {P:Program}{N:Nat}{tbl:List (Con S)}{ns:List (Nat×List FuncId)}(ht:∀c∈tbl,ConOk P c):ClsOk P N (clP tbl ns) where
 call:=fun ok W hW A kp r s dst c k hl hy h=>by
  have h:(match isY s c with
   | true=>none
   | false=>callX tbl ns ok A s dst c k)=some r:=h
  rw[hy] at h
  exact(callX_ok (N:=N) ht ok W hW A r).p s dst c k hl hy h
 yld:=fun ok A kp r cx s dst c k hl hy h=>by
  have h:(match isY s c with
   | true=>none
   | false=>callX tbl ns ok A s dst c k)=some r:=h
  rw[hy] at h
  cases h
 rf:=fun cx _ key hd g _ s B K r hl h=>by cases h
theorem RngOk_nil {N:Nat}{H:List (Nat×Hint)}{l:List (Nat×Array Tmp×Code×Code)}(h:isNil l=true):RngOk S N H l:=by
 cases l with
 | nil=>trivial
 | cons x r=>cases h
theorem ConOk.of {P:Program}{N fu:Nat}{H:List (Nat×Hint)}{tbl:List (Con S)}{con:Con S}{fn:Func}{c:Code}(hm:P.follows .mixedOrders=true) (ht:∀c∈tbl,ConOk P c)
  (hf:P.funcs[con.f]?=some fn) (hcall:∀args w,(callFunc con.f args).run P w=.ok (.enter con.f args) w) (hb:fn.body=some c) (hN:fn.ntmps=N)
  (hle:shapesOk N con.args con.slots con.outs=true)
  {mvs:List Nat}{ns:List (Nat×List FuncId)}(h:∀q,denF P N fu H (clP tbl ns) c mvs fn.results.toList con.args con.objs con.slots con.outs q=con.F q) (hn:isNil (rngs c 0)=true:=by kernel_rfl):ConOk P con:=
 ConOk.ofC hm (clP_ok ht) hf hcall hb hN hle (RngOk_nil hn) h
theorem ConOk.law {P:Program}{con:Con S}(C:ConOk P con){gs:List G}{q:tup S.α (begTys con.args con.objs)}{r:tup S.α (JH.tys ⟨con.slots,con.outs⟩)}(hr:con.F q=some r) (hgs:TV.er.go (beginT con.args con.objs (leaves _ q)).ln (fillC con.args (leaves _ q)).1=gs)
  (hst:(beginT con.args con.objs (leaves _ q)).er.st=[]) (hres:(resV con.slots (leaves _ r)).er (lnO (fillS con.outs (fillF con.slots (leaves _ r)).2).1)=.val (.bool true)) (ho:erS (lnO (fillS con.outs (fillF con.slots (leaves _ r)).2).1) (fillS con.outs (fillF con.slots (leaves _ r)).2).1=[]):
  GM P con.f gs [] (fun g st=>g=.val (.bool true)∧st=[]):=by
 have h:=C.ok q r hr
 rw[hgs,hst] at h
 exact h.mono fun g st hg=>⟨hg.1.trans hres,hg.2.trans ho⟩
end
end Go.DN
/-
 DN,part Zb:loops over functions:rounds by contract,calls of yield.
-/
namespace Go.DN
open Go.AM
section
variable {S:Sig}
theorem lend_in {s:TSt S}{vw:Bool}{H:List Nat}{args:List Sh}{objs:List Oh}{vs:List (TV S)}{xl yl:List (Leaf S.α)}{q:tup S.α (begTys args objs)}(hx:lendSL s vw H args vs=some xl) (hy:lendOs s vw H H objs=some yl) (hq:tupOf (begTys args objs) (xl++yl)=some q):
  lendG.go H (lendV s.er.st H vw) (TV.er.go s.ln vs)=some (TV.er.go (beginT args objs (leaves _ q)).ln (fillC args (leaves _ q)).1)∧lendSt H (lendV s.er.st H vw) s.er.st H 0=some (beginT args objs (leaves _ q)).er.st:=by
 have hlq:=leaves_tupOf hq
 have hrest:(fillC args (leaves _ q)).2=yl:=by
  rw[hlq]
  exact(lendSL_ok (lnC:=fun k=>s.ln ((H[k-1000]?).getD 0)) (fun i h hi=>by simp[idxH_some hi]) hx yl).1
 have hst:(beginT args objs (leaves _ q)).stA=(fillS (zipN objs 1000) yl).1:=by
  show(fillS (zipN objs 1000) (fillC args (leaves _ q)).2).1++[]=_
  rw[List.append_nil,hrest]
 obtain⟨o1,o2,o3⟩:=lendOs_ok 0 hy []
 rw[List.append_nil] at o1 o2 o3
 have hln:∀i h,idxH H h=some i→(beginT args objs (leaves _ q)).ln (1000+i)=s.ln h:=by
  intro i h hi
  have:=o2 i h (idxH_some hi)
  rw[Nat.zero_add] at this
  unfold TSt.ln
  rw[hst]
  exact this
 have hargs:=(lendSL_ok hln hx yl).2
 rw[←hlq] at hargs
 have hobjs:=o3 _ hln
 have hst2:(beginT args objs (leaves _ q)).er.st=erS (beginT args objs (leaves _ q)).ln (fillS (zipN objs 1000) yl).1:=by
  show erS _ _=_
  rw[hst]
 exact⟨hargs,by rw[hst2];exact hobjs⟩
theorem lend_out {s:TSt S}{vw:Bool}{H js bk:List Nat}{O sb:List (Nat×TO S)}{n:Nat}{A:Type}{k:Option A}{r:A}(hO:keysOf O=js) (c3:apart H (keysOf s.lst)=true) (hf:fitL s H (deadsT js H 0) js bk=true)
  (hsb:backT vw (bkH (erS (lnO O) O) bk) (mineAll s.er.st (erS (lnO O) O) H 0) s.er.st O bk=some sb) (h:lensOk s sb (fitL.minus H (deadsT js H 0)) k=some r):
  k=some r∧backS vw s.er H (erS (lnO O) O) bk=some (backTS s H (deadsT js H 0) sb n).er∧(∀a b,bkH (erS (lnO O) O) bk a=some b→(backTS s H (deadsT js H 0) sb n).ln b=lnO O a):=by
 simp only[fitL,Bool.and_eq_true] at hf
 obtain⟨f1,f2,f3,f4,f5⟩:=hf
 obtain⟨k1,k2⟩:=lensOk_ok h
 have hkeys:keysOf sb=bk:=sb_keys hsb
 have hd:∀h,h∈H→h∉deadsT js H 0→h∈bk:=fun h h1 h2=>within_spec f2 h (minus_mem h1 h2)
 have her:=backTS_er (n:=n) f1 hkeys c3 (fun h h1 h2=>k2 h (minus_mem h1 h2)) hd f3 f4 f5
 have f1':=f1
 rw[←hO] at f1'
 obtain⟨b1,b2⟩:=bkOkT_ok (ln:=lnO O) f1'
 have hlnB:∀a b,bkH (erS (lnO O) O) bk a=some b→(backTS s H (deadsT js H 0) sb n).ln b=lnO O a:=by
  intro a b hab
  obtain⟨_,o,o',g1,g2,g3⟩:=backT_get hsb b2 a b hab
  unfold TSt.ln lnO
  show(match oget ((sb++deadO _ (outO H s.st))++s.lst) b with | some o=>o.len | none=>0)=_
  rw[List.append_assoc,oget_appA,g2,g1]
  exact g3
 have hds:deads (erS (lnO O) O) H 0=deadsT js H 0:=by rw[deads_er,hO]
 refine⟨k1,?_,hlnB⟩
 unfold backS
 have hb:backSt vw (bkH (erS (lnO O) O) bk) (mineAll s.er.st (erS (lnO O) O) H 0) s.er.st (erS (lnO O) O) bk=some (erS (backTS s H (deadsT js H 0) sb n).ln sb):=backT_ok hlnB hsb
 have hdf:s.er.df.all (fun g=>!(anyH (deads (erS (lnO O) O) H 0) g))=true:=by
  rw[hds];exact cleanL_all f5
 show(bif bkOk s.er H (erS (lnO O) O) bk&&s.er.df.all (fun g=>!(anyH (deads (erS (lnO O) O) H 0) g)) then _ else none)=_
 rw[b1,hdf]
 show(match backSt vw (bkH (erS (lnO O) O) bk) (mineAll s.er.st (erS (lnO O) O) H 0) s.er.st (erS (lnO O) O) bk with
  | some sb=>some ({fr:=deadFr (deads (erS (lnO O) O) H 0) s.er.fr,st:=sb++deadSt (deads (erS (lnO O) O) H 0) (outSt H s.er.st),df:=s.er.df}:St)
  | none=>none)=_
 rw[hb,hds,her]
def slotsY (lv:Bool):List (Nat×Sh):=match lv with
 | true=>[(0,.dat true (.int .i64))]
 | false=>[]
def nLeaf (lv:Bool) (n:Int):List (Leaf S.α):=match lv with
 | true=>[⟨.int .i64,n⟩]
 | false=>[]
def nOf (lv:Bool) (ls:List (Leaf S.α)):Int:=match lv with
 | true=>match ls with
  | ⟨.int _,n⟩::_=>n
  | _=>0
 | false=>0
structure YCon (S:Sig) where
 key:Nat
 args:List Sh
 cells:List Sh
 objs:List Oh
 outs:List (Nat×Oh)
 lv:Bool
 F:tup S.α (begTys (args++cells) objs)→Option (tup S.α (JH.tys ⟨slotsY lv,outs⟩))
def outsY (Y:YCon S) (r:tup S.α (JH.tys ⟨slotsY Y.lv,Y.outs⟩)):List (Nat×TO S):=(fillS Y.outs (fillF (slotsY Y.lv) (leaves _ r)).2).1
def vsY (Y:YCon S) (q:tup S.α (begTys (Y.args++Y.cells) Y.objs)):List (TV S):=(fillC (Y.args++Y.cells) (leaves _ q)).1
structure YOk (P:Program) (Y:YCon S):Prop where
 ps:(S.lpc Y.key).ps.size=Y.args.length∧ndB (S.lpc Y.key).ps.toList=true∧(S.lpc Y.key).ps.toList.all (Nat.blt · (S.lpc Y.key).N)=true
 ok:∀q r,Y.F q=some r→GY P (S.lp Y.key 0) (TV.er.go (beginT (Y.args++Y.cells) Y.objs (leaves _ q)).ln ((vsY Y q).drop Y.args.length)) (TV.er.go (beginT (Y.args++Y.cells) Y.objs (leaves _ q)).ln ((vsY Y q).take Y.args.length))
  (beginT (Y.args++Y.cells) Y.objs (leaves _ q)).er.st (fun j st'=>j=jmpI (S.lpc Y.key).id (nOf Y.lv (leaves _ r))∧st'=erS (lnO (outsY Y r)) (outsY Y r))
end
end Go.DN
/-
 DN,part Zc:rounds out of a run of their code;the loop itself.
-/
namespace Go.DN
open Go.AM
section
variable {S:Sig}
def zipT:List Nat→List (TV S)→List (Nat×TV S)
 | t::ts,v::vs=>(t,v)::zipT ts vs
 | _,_=>[]
theorem zipT_er (ln:Nat→Nat):∀(ts:List Nat) (vs:List (TV S)),erF ln (zipT ts vs)=zipG ts (TV.er.go ln vs)
 | [],_=>rfl
 | _::_,[]=>rfl
 | t::ts,v::vs=>by simp only[zipT,erF,TV.er.go,zipG,zipT_er ln ts vs]
theorem erF_app (ln:Nat→Nat):∀(a b:List (Nat×TV S)),erF ln (a++b)=erF ln a++erF ln b
 | [],_=>rfl
 | (t,v)::r,b=>by simp only[List.cons_append,erF,erF_app ln r b]
def begY (L:LpC) (args cells:List Sh) (objs:List Oh) (ls:List (Leaf S.α)):TSt S:=
 {fr:=zipT L.ps.toList ((fillC (args++cells) ls).1.take args.length)++zipT L.slots ((fillC (args++cells) ls).1.drop args.length),lo:=[],st:=(fillS (zipN objs 1000) (fillC (args++cells) ls).2).1,lst:=[],df:=[],nx:=300,last:=[]}
def endY (P:Program) (t:TSt S) (lv:Bool) (n:Int) (outs:List (Nat×Oh)):Option (tup S.α (JH.tys ⟨slotsY lv,outs⟩)):=
 match lv||n==0 with
 | true=>match endR P t [] [] outs with
  | some q=>tupOf (JH.tys ⟨slotsY lv,outs⟩) (nLeaf lv n++leaves _ q)
  | none=>none
 | false=>none
noncomputable def denY (P:Program) (fu:Nat) (H:List (Nat×Hint)) (cl:Cl S) (L:LpC) (mvs:List Nat) (args cells:List Sh) (objs:List Oh) (outs:List (Nat×Oh)) (lv:Bool) (q:tup S.α (begTys (args++cells) objs)):Option (tup S.α (JH.tys ⟨slotsY lv,outs⟩)):=
 match moveT mvs (begY L args cells objs (leaves _ q)) with
 | some s=>denC P L.N fu H cl L.asg 0 s _ fun e t=>match e with
  | .normal=>denC P L.N fu H cl L.body (csize L.asg) t _ fun e t=>match e with
   | .normal=>endY P t lv 0 outs
   | .exit id=>match Nat.beq id L.id with
    | true=>endY P t lv 1 outs
    | false=>none
   | .ret=>endY P t lv 2 outs
   | _=>none
  | _=>none
 | none=>none
theorem nOf_leaf {lv : Bool} {n : Int} (h : (lv || n == 0) = true) (r : List (Leaf S.α)) : nOf lv (nLeaf lv n ++ r) = n := by
  cases lv with
  | true => rfl
  | false => have : n = 0 := by simpa using h
             rw [this]; rfl
theorem fill_leaf (lv:Bool) (n:Int) (r:List (Leaf S.α)):(fillF (slotsY lv) (nLeaf lv n++r)).2=r:=by cases lv <;> rfl
theorem YOk.of {P:Program}{fu:Nat}{H:List (Nat×Hint)}{tbl:List (Con S)}{Y:YCon S}(hm:P.follows .mixedOrders=true) (ht:∀c∈tbl,ConOk P c)
  (hps:(Nat.beq (S.lpc Y.key).ps.size Y.args.length&&(ndB (S.lpc Y.key).ps.toList&&((S.lpc Y.key).ps.toList.all (Nat.blt · (S.lpc Y.key).N)&&ndK (keysOf Y.outs))))=true)
  (hna:isNil (rngs (S.lpc Y.key).asg 0)=true) (hnb:isNil (rngs (S.lpc Y.key).body (csize (S.lpc Y.key).asg))=true)
  {mvs:List Nat}{ns:List (Nat×List FuncId)}(h:∀q,denY P fu H (clP tbl ns) (S.lpc Y.key) mvs Y.args Y.cells Y.objs Y.outs Y.lv q=Y.F q):YOk P Y:=by
 simp only[Bool.and_eq_true] at hps
 obtain⟨p1,p2,p3,p4⟩:=hps
 have hcl:=clP_ok (N:=(S.lpc Y.key).N) (ns:=ns) ht
 have nilA:rngs (S.lpc Y.key).asg 0=[]:=by cases hx:rngs (S.lpc Y.key).asg 0 with | nil=>rfl | cons x r=>rw[hx] at hna;cases hna
 have nilB:rngs (S.lpc Y.key).body (csize (S.lpc Y.key).asg)=[]:=by cases hx:rngs (S.lpc Y.key).body (csize (S.lpc Y.key).asg) with | nil=>rfl | cons x r=>rw[hx] at hnb;cases hnb
 refine⟨⟨Nat.eq_of_beq_eq_true p1,p2,p3⟩,fun q r hr=>?_⟩
 have hr:=(h q).trans hr
 refine GY.of (asg:=(S.lpc Y.key).asg) (body:=(S.lpc Y.key).body) rfl rfl fun cx=>?_
 have e0:(⟨zipG (S.lp Y.key 0).ps.toList (TV.er.go (beginT (Y.args++Y.cells) Y.objs (leaves _ q)).ln ((vsY Y q).take Y.args.length))++zipG (S.lp Y.key 0).slots (TV.er.go (beginT (Y.args++Y.cells) Y.objs (leaves _ q)).ln ((vsY Y q).drop Y.args.length)),
   (beginT (Y.args++Y.cells) Y.objs (leaves _ q)).er.st,[]⟩:St)=(begY (S.lpc Y.key) Y.args Y.cells Y.objs (leaves _ q)).er:=by
  show _=St.mk (erF _ ((zipT _ _++zipT _ _)++[])) _ _
  rw[List.append_nil,erF_app,zipT_er,zipT_er]
  rfl
 rw[e0]
 unfold denY at hr
 split at hr
 rotate_left
 ·cases hr
 rename_i s0 hmv
 refine moveT_ok (LInv_nil rfl) hmv fun hl0=>?_
 refine denC_ok hm hcl _ 0 (RngOk_nil hna) (.inl nilA) _ _ _ r hl0 hr _ fun e t hlt hk hK=>?_
 split at hK
 rotate_left
 ·cases hK
 refine⟨rfl,fun cx'=>?_⟩
 refine GW.retell (Q':=fun e s'=>∃n:Int,∃t:TSt S,Gh s' t.er∧LInv t∧endY P t Y.lv n Y.outs=some r∧((e=.normal∧n=0)∨(e=.exit (S.lpc Y.key).id∧n=1)∨(e=.ret∧n=2)))
  (denC_ok hm hcl _ _ (RngOk_nil hnb) (.inl nilB) _ _ _ r hlt hK _ fun e t hlt hk hK=>?_) fun e s' hq=>?_
 ·split at hK
  ·exact⟨0,t,Gh.refl _,hlt,hK,.inl ⟨rfl,rfl⟩⟩
  ·split at hK
   ·rename_i hb
    have:=Nat.eq_of_beq_eq_true hb
    subst this
    exact⟨1,t,Gh.refl _,hlt,hK,.inr (.inl ⟨rfl,rfl⟩)⟩
   ·cases hK
  ·exact⟨2,t,Gh.refl _,hlt,hK,.inr (.inr ⟨rfl,rfl⟩)⟩
  ·cases hK
 ·obtain⟨n,t,hg0,hlt,hE,he⟩:=hq
  unfold endY at hE
  split at hE
  rotate_left
  ·cases hE
  rename_i hlv
  split at hE
  rotate_left
  ·cases hE
  rename_i q' hq'
  obtain⟨u,hg,hdf,_,O',eu,hln,hown⟩:=endR_ok hlt hq'
  have hls:=leaves_tupOf hE
  have hn:nOf Y.lv (leaves _ r)=n:=by rw[hls];exact nOf_leaf hlv _
  have hO:outsY Y r=(fillS Y.outs (leaves _ q')).1:=by unfold outsY;rw[hls,fill_leaf]
  have hout:(fillS Y.outs (fillF [] (leaves (JH.tys ⟨[],Y.outs⟩) q')).2).1=(fillS Y.outs (leaves _ q')).1:=rfl
  rw[hout] at eu hln
  have hk:keysOf (fillS Y.outs (leaves (JH.tys ⟨[],Y.outs⟩) q')).1=keysOf Y.outs:=fillS_keys _ _
  have hsub:SubSt u.er.st (erS (lnO (outsY Y r)) (outsY Y r)):=by
   rw[hO]
   refine subSt_of fun j o hm=>?_
   have e1:oget (fillS Y.outs (leaves (JH.tys ⟨[],Y.outs⟩) q')).1 j=some o:=ndK_get (by rw[hk];exact p4) j o hm
   have e2:oget u.stA j=some o:=by rw[eu,oget_appA,e1]
   rw[show sget u.er.st j=_ from sget_erS e2]
   have hj:o.er u.ln=o.er (lnO (fillS Y.outs (leaves (JH.tys ⟨[],Y.outs⟩) q')).1):=TO.er_good hln o (fillS_good (keysOf Y.outs) Y.outs _ hown j o e1)
   rw[hj]
  refine⟨u.er,hg0.trans hg,?_⟩
  ·refine⟨hdf,_,hsub,?_⟩
   rcases he with ⟨h,h2⟩ | ⟨h,h2⟩ | ⟨h,h2⟩
   ·subst h;subst h2
    exact⟨by rw[hn];rfl,rfl⟩
   ·subst h;subst h2
    exact⟨by rw[hn];rfl,rfl⟩
   ·subst h;subst h2
    exact⟨by rw[hn];rfl,rfl⟩
end
end Go.DN
/-
 DN,part Zd:the loop over a function;contracts of functions that have such loops,or that go through them.
-/
namespace Go.DN
open Go.AM
section
variable {S:Sig}
end
end Go.DN
/-
 DN,part Ze:panics that are caught,deferred calls.
-/
namespace Go.DN
open Go.AM
def thrE (T:TypeId) (x:Int×Int):List PanicEntry:=[{v:=.iface T (.agg #[.int .i64 x.1,.int .i64 x.2]),recovered:=false}]
def unthr (T:TypeId):List PanicEntry→Option (Int×Int)
 | [⟨.iface T' (.agg ⟨[.int .i64 e,.int .i64 a]⟩),false,false⟩]=>match Nat.beq T' T with
  | true=>some (e,a)
  | false=>none
 | _=>none
theorem unthr_ok {T:TypeId}{ch:List PanicEntry}{x:Int×Int}(h:unthr T ch=some x):ch=thrE T x:=by
 unfold unthr at h
 split at h
 ·split at h
  ·rename_i hb
   cases h
   have:=Nat.eq_of_beq_eq_true hb
   subst this
   rfl
  ·cases h
 ·cases h
def bindP {α β γ:Type}(o:Option (α⊕β)) (f:α→Option γ) (g:β→Option γ):Option γ:=o.bind fun r=>match r with
 | .inl x=>f x
 | .inr y=>g y
theorem bindP_some {α β γ:Type}{o:Option (α⊕β)}{f:α→Option γ}{g:β→Option γ}{r:γ}(h:bindP o f g=some r):∃x,o=some x∧((∃a,x=.inl a∧f a=some r)∨∃b,x=.inr b∧g b=some r):=by
 obtain⟨x,h1,h2⟩:=bind_some h
 refine⟨x,h1,?_⟩
 cases x with
 | inl a=>exact .inl ⟨a,rfl,h2⟩
 | inr b=>exact .inr ⟨b,rfl,h2⟩
section
variable {S:Sig}
def lendQ (s:TSt S) (args:List Sh) (objs:List Oh) (vw:Bool) (vs:List (TV S)){A:Type}(k:List Nat→tup S.α (begTys args objs)→Option A):Option A:=
 match rootsT s.stA objs 1000 (pairC args vs) with
 | some H=>match ndB H&&apart H (keysOf s.lst) with
  | true=>match lendSL s vw H args vs with
   | some xs=>match lendOs s vw H H objs with
    | some ys=>match tupOf (begTys args objs) (xs++ys) with
     | some q=>k H q
     | none=>none
    | none=>none
   | none=>none
  | false=>none
 | none=>none
theorem lendQ_some {s:TSt S}{args:List Sh}{objs:List Oh}{vw:Bool}{vs:List (TV S)}{A:Type}{k:List Nat→tup S.α (begTys args objs)→Option A}{r:A}(h:lendQ s args objs vw vs k=some r):
  ∃H q,ndB H=true∧apart H (keysOf s.lst)=true∧k H q=some r∧lendG.go H (lendV s.er.st H vw) (TV.er.go s.ln vs)=some (TV.er.go (beginT args objs (leaves _ q)).ln (fillC args (leaves _ q)).1)∧lendSt H (lendV s.er.st H vw) s.er.st H 0=some (beginT args objs (leaves _ q)).er.st:=by
 unfold lendQ at h
 split at h
 ·rename_i H hH
  split at h
  ·rename_i hc
   simp only[Bool.and_eq_true] at hc
   split at h
   ·rename_i xs hx
    split at h
    ·rename_i ys hy
     split at h
     ·rename_i q hq
      obtain⟨a1,a2⟩:=lend_in hx hy hq
      exact⟨H,q,hc.1,hc.2,h,a1,a2⟩
     ·cases h
    ·cases h
   ·cases h
  ·cases h
 ·cases h
def giveB (s:TSt S) (vw:Bool) (H:List Nat) (outs:List (Nat×Oh)) (O:List (Nat×TO S)) (d:Nat){A:Type}(k:List Nat→TSt S→Option A):Option A:=
 match bkT s H d (keysOf outs) [] with
 | some bk=>match fitL s H (deadsT (keysOf outs) H 0) (keysOf outs) bk with
  | true=>match backT vw (bkH (erS (lnO O) O) bk) (mineAll s.er.st (erS (lnO O) O) H 0) s.er.st O bk with
   | some sb=>lensOk s sb (fitL.minus H (deadsT (keysOf outs) H 0)) (k bk (backTS s H (deadsT (keysOf outs) H 0) sb outs.length))
   | none=>none
  | false=>none
 | none=>none
theorem giveB_some {s:TSt S}{vw:Bool}{H:List Nat}{outs:List (Nat×Oh)}{O:List (Nat×TO S)}{d:Nat}{A:Type}{k:List Nat→TSt S→Option A}{r:A}(hO:keysOf O=keysOf outs) (c3:apart H (keysOf s.lst)=true) (h:giveB s vw H outs O d k=some r):
  ∃bk t,k bk t=some r∧LInv t∧Keep s t∧backS vw s.er H (erS (lnO O) O) bk=some t.er∧∀a b,bkH (erS (lnO O) O) bk a=some b→t.ln b=lnO O a:=by
 unfold giveB at h
 split at h
 ·rename_i bk hbk
  split at h
  ·rename_i hf
   split at h
   ·rename_i sb hsb
    obtain⟨a1,a2,a3⟩:=lend_out (n:=outs.length) hO c3 hf hsb h
    exact⟨bk,_,a1,LInv_nil (t:=backTS s H (deadsT (keysOf outs) H 0) sb outs.length) rfl,⟨rfl,rfl,rfl⟩,a2,a3⟩
   ·cases h
  ·cases h
 ·cases h
def outsL (slots:List (Nat×Sh)) (outs:List (Nat×Oh)) (r:tup S.α (JH.tys ⟨slots,outs⟩)):List (Nat×TO S):=(fillS outs (fillF slots (leaves _ r)).2).1
theorem keys_outsL (slots:List (Nat×Sh)) (outs:List (Nat×Oh)) (r:tup S.α (JH.tys ⟨slots,outs⟩)):keysOf (outsL slots outs r)=keysOf outs:=fillS_keys _ _
structure ConP (S:Sig) where
 f:FuncId
 args:List Sh
 objs:List Oh
 vw:Bool
 slots:List (Nat×Sh)
 outs:List (Nat×Oh)
 pouts:List (Nat×Oh)
 T:TypeId
 F:tup S.α (begTys args objs)→Option (tup S.α (JH.tys ⟨slots,outs⟩)⊕((Int×Int)×tup S.α (JH.tys ⟨[],pouts⟩)))
def AnsP {slots:List (Nat×Sh)}{outs pouts:List (Nat×Oh)}(r:tup S.α (JH.tys ⟨slots,outs⟩)⊕((Int×Int)×tup S.α (JH.tys ⟨[],pouts⟩))) (g:G) (st:List (Nat×Blk)):Prop:=∃x,r=.inl x∧Ans slots outs x g st
def Thr {slots:List (Nat×Sh)}{outs pouts:List (Nat×Oh)}(T:TypeId) (r:tup S.α (JH.tys ⟨slots,outs⟩)⊕((Int×Int)×tup S.α (JH.tys ⟨[],pouts⟩))) (ch:List PanicEntry) (st:List (Nat×Blk)):Prop:=
 ∃y,r=.inr y∧ch=thrE T y.1∧st=erS (lnO (outsL [] pouts y.2)) (outsL [] pouts y.2)
structure ConPOk (P:Program) (con:ConP S):Prop where
 call:∀args w,(callFunc con.f args).run P w=.ok (.enter con.f args) w
 ok:∀q r,con.F q=some r→GP P con.f (TV.er.go (beginT con.args con.objs (leaves _ q)).ln (fillC con.args (leaves _ q)).1) (beginT con.args con.objs (leaves _ q)).er.st (AnsP r) (Thr con.T r)
def callLP (ok:Nat→Bool) (con:ConP S) (s:TSt S) (d:Nat) (vs:List (TV S)){A:Type}(k:TSt S→Option A) (kp:List PanicEntry→TSt S→Option A):Option A:=
 lendQ s con.args con.objs con.vw vs fun H q=>match okAll ok H with
  | true=>bindP (con.F q) (fun x=>giveB s con.vw H con.outs (outsL con.slots con.outs x) d fun bk t=>match (resV con.slots (leaves _ x)).ren con.vw (bkH (erS (lnO (outsL con.slots con.outs x)) (outsL con.slots con.outs x)) bk) with
    | some rv=>k (t.put d rv)
    | none=>none)
   fun y=>giveB s con.vw H con.pouts (outsL [] con.pouts y.2) d fun _ t=>kp (thrE con.T y.1) t
  | false=>none
theorem callLP_ok {P:Program}{W:List Nat}{ok:Nat→Bool}(hW:∀h,ok h=true→W.contains h=true){con:ConP S}(C:ConPOk P con){s:TSt S}{d:Nat}{vs:List (TV S)}{A:Type}{k:TSt S→Option A}{kp:List PanicEntry→TSt S→Option A}{r:A}(h:callLP ok con s d vs k kp=some r){o:Oper}
  (heff:∀{gs':List G}{stC:List (Nat×Blk)}{Q:G→List (Nat×Blk)→Prop}{Qp:List PanicEntry→List (Nat×Blk)→Prop}{T:St→Prop}{Tp:List PanicEntry→St→Prop}(H:List Nat) (vw:Bool),lendG.go H (lendV s.er.st H vw) (TV.er.go s.ln vs)=some gs'→lendSt H (lendV s.er.st H vw) s.er.st H 0=some stC→ndB H=true→GP P con.f gs' stC Q Qp→
   (∀r st',Q r st'→∃bk s2 r',backS vw s.er H st' bk=some s2∧renG vw (bkH st' bk) r=some r'∧T (s2.put d r'))→(∀ch st',Qp ch st'→∃bk s2,backS vw s.er H st' bk=some s2∧Tp ch s2)→allIn H W=true→EffectP P W s.er o T Tp):EfOkP P W s o k kp r:=by
 obtain⟨H,q,c1,c3,h1,h2,h3⟩:=lendQ_some h
 split at h1
 ·rename_i hok
  obtain⟨x,hF,hx⟩:=bindP_some h1
  refine⟨fun s'=>∃t:TSt S,Gh s' t.er∧LInv t∧Keep s t∧k t=some r,fun ch s'=>∃t:TSt S,Gh s' t.er∧LInv t∧Keep s t∧kp ch t=some r,heff H con.vw h2 h3 c1 (C.ok q x hF) ?_ ?_ (okAll_in hW hok),fun s' h=>h,fun ch s' h=>h⟩
  ·rintro g st' ⟨a,rfl,rfl,rfl⟩
   rcases hx with ⟨a',ha,hx⟩ | ⟨b,hb,_⟩
   ·cases ha
    obtain⟨bk,t,e1,e2,e3,e4,e5⟩:=giveB_some (keys_outsL _ _ _) c3 hx
    split at e1
    ·rename_i rv hrv
     refine⟨bk,t.er,rv.er t.ln,e4,ren_ok e5 _ _ hrv,_,?_,e2.put d rv,⟨e3.lo,e3.lst,e3.df⟩,e1⟩
     rw[put_er]
     exact Gh.refl _
    ·cases e1
   ·cases hb
  ·rintro ch st' ⟨y,rfl,rfl,rfl⟩
   rcases hx with ⟨a',ha,_⟩ | ⟨b,hb,hx⟩
   ·cases ha
   ·cases hb
    obtain⟨bk,t,e1,e2,e3,e4,e5⟩:=giveB_some (keys_outsL _ _ _) c3 hx
    exact⟨bk,t.er,e4,t,Gh.refl _,e2,e3,e1⟩
 ·cases h1
def findP (f:FuncId):List (ConP S)→Option (ConP S)
 | []=>none
 | c::r=>match Nat.beq c.f f with
  | true=>some c
  | false=>findP f r
theorem findP_ok {f:FuncId}:∀{l:List (ConP S)}{c:ConP S},findP f l=some c→c∈l∧c.f=f
 | [],_,h=>by cases h
 | x::r,c,h=>by
  simp only[findP] at h
  split at h
  ·rename_i hb
   cases h
   exact⟨List.mem_cons_self,Nat.eq_of_beq_eq_true hb⟩
  ·obtain⟨h1,h2⟩:=findP_ok h
   exact⟨List.mem_cons_of_mem _ h1,h2⟩
def calleeT (s:TSt S) (c:Call):Option (FuncId×List (TV S)):=match c.callee with
 | .value (.func f)=>some (f,[])
 | .value x=>tevK s x c.args.toList
 | _=>none
def callT (cl:Cl S) (tblP:List (ConP S)) (ok:Nat→Bool) (A:Type) (kp:List PanicEntry→TSt S→Option A) (s:TSt S) (dst:Option Nat) (c:Call) (k:TSt S→Option A):Option A:=
 match calleeT s c with
 | some (f,caps)=>match findP f tblP with
  | some con=>match dst with
   | some d=>match tevs s c.args.toList with
    | some vs=>callLP ok con s d (vs++caps) k kp
    | none=>none
   | none=>none
  | none=>cl.call ok A kp s dst c k
 | none=>cl.call ok A kp s dst c k
def clT (cl:Cl S) (tblP:List (ConP S)):Cl S where
 call:=fun ok A kp s dst c k=>match isY s c with
  | true=>cl.call ok A kp s dst c k
  | false=>callT cl tblP ok A kp s dst c k
 rf:=cl.rf
theorem clT_ok {P:Program}{N:Nat}{cl:Cl S}{tblP:List (ConP S)}(hcl:ClsOk P N cl) (ht:∀c∈tblP,ConPOk P c):ClsOk P N (clT cl tblP) where
 call:=fun ok W hW A kp r s dst c k hl hy h0 ty pos after guard=>by
  have h:(match isY s c with
   | true=>cl.call ok A kp s dst c k
   | false=>callT cl tblP ok A kp s dst c k)=some r:=h0
  clear h0
  rw[hy] at h
  dsimp only at h
  unfold callT at h
  split at h
  ·rename_i f caps hc
   split at h
   ·rename_i con hcon
    obtain⟨hm,hf⟩:=findP_ok hcon
    subst hf
    have C:=ht con hm
    split at h
    ·split at h
     ·rename_i d vs hv
      obtain⟨cal,args,ts⟩:=c
      unfold calleeT at hc
      dsimp only at hc hv
      split at hc
      ·cases hc
       rw[List.append_nil] at h
       exact callLP_ok hW C h fun H vw h1 h2 h3 h4 h5 h5p h6=>EfP.c1 H vw C.call (tevs_ok hv).2 h1 h2 h3 h4 h5 h5p h6
      ·obtain⟨hx,hb⟩:=tevK_ok hc
       ·exact callLP_ok hW C h fun H vw h1 h2 h3 h4 h5 h5p h6=>EfP.c2 H vw hb C.call (tev_ok hx) (tevs_ok hv).2 (by rw[←go_append];exact h1) h2 h3 h4 h5 h5p h6
      ·cases hc
     ·cases h
    ·cases h
   ·exact hcl.call ok W hW A kp r s dst c k hl hy h ty pos after guard
  ·exact hcl.call ok W hW A kp r s dst c k hl hy h ty pos after guard
 yld:=fun ok A kp r cx s dst c k hl hy h=>by
  have h:(match isY s c with
   | true=>cl.call ok A kp s dst c k
   | false=>callT cl tblP ok A kp s dst c k)=some r:=h
  rw[hy] at h
  exact hcl.yld ok A kp r cx s dst c k hl hy h
 rf:=hcl.rf
abbrev Md:=Option (Int×Int)
def fmd (T:TypeId):Md→FrameMode
 | none=>.returning
 | some x=>.panicking (thrE T x)
theorem fmd_run (T:TypeId) (m:Md):fmd T m≠.run:=by cases m <;> exact fun h=>by cases h
theorem settle_fmd (T:TypeId) (m:Md):settle (fmd T m)=fmd T m:=by cases m <;> rfl
structure ConD (S:Sig) where
 f:FuncId
 args:List Sh
 objs:List Oh
 vw:Bool
 outs:List (Nat×Oh)
 rcv:Bool
 F:Md→tup S.α (begTys args objs)→Option (tup S.α (JH.tys ⟨[],outs⟩))
def ConD.md (con:ConD S) (m:Md):Md:=match con.rcv with
 | true=>none
 | false=>m
structure ConDOk (P:Program) (T:TypeId) (con:ConD S):Prop where
 call:∀args w,(callFunc con.f args).run P w=.ok (.enter con.f args) w
 ok:∀m q r,con.F m q=some r→GD P con.f (TV.er.go (beginT con.args con.objs (leaves _ q)).ln (fillC con.args (leaves _ q)).1) (beginT con.args con.objs (leaves _ q)).er.st (fmd T m)
  (fun u' st=>settle u'=fmd T (con.md m)∧st=erS (lnO (outsL [] con.outs r)) (outsL [] con.outs r))
theorem ConDOk.of {P:Program}{T:TypeId}{N fu:Nat}{H:List (Nat×Hint)}{cl:Cl S}{con:ConD S}{fn:Func}{c:Code}(hm:P.follows .mixedOrders=true) (hcl:ClsOk P N cl)
  (hf:P.funcs[con.f]?=some fn) (hcall:∀args w,(callFunc con.f args).run P w=.ok (.enter con.f args) w) (hb:fn.body=some c) (hN:fn.ntmps=N)
  (hle:shapesOk N con.args [] con.outs=true){mvs:List Nat}(h:∀m q,denF P N fu H cl c mvs fn.results.toList con.args con.objs [] con.outs q=con.F m q) (hn:isNil (rngs c 0)=true:=by kernel_rfl) (hr:con.rcv=false:=by rfl):ConDOk P T con:=
 ⟨hcall,fun m q r hF u=>by
  have hr0:=hle
  simp only[shapesOk,Bool.and_eq_true] at hr0
  have:=GD.of (P:=P) (N:=N) (f:=con.f) (c:=c) (args:=TV.er.go (beginT con.args con.objs (leaves _ q)).ln (fillC con.args (leaves _ q)).1) (st:=(beginT con.args con.objs (leaves _ q)).er.st)
   (Q:=fun st=>st=erS (lnO (outsL [] con.outs r)) (outsL [] con.outs r)) hf hb hN (by rw[er_go,List.length_map,fillC_len];exact hr0.1)
   (fun cx hro=>(denF_gw hm hcl hf hb hN hle (RngOk_nil hn) ((h m q).trans hF) hro).mono fun e s ⟨h1,h2,gs,r',st',h3,h4,h5,h6⟩=>⟨h1,h2,gs,r',st',h3,h4,h5,h6.2⟩) (fmd T m)
  intro μ w vs h1 h2 h3 h4
  refine(this u μ w vs h1 h2 h3 h4).mono ?_
  rintro e u' w' ⟨v,st',μ',e1,⟨e2,e3⟩,e4⟩
  refine⟨v,st',μ',e1,⟨?_,e3⟩,e4⟩
  rw[e2,settle_fmd]
  unfold ConD.md
  rw[hr]⟩
def callD (con:ConD S) (m:Md) (s:TSt S) (vs:List (TV S)){A:Type}(k:TSt S→Option A):Option A:=
 lendQ s con.args con.objs con.vw vs fun H q=>(con.F m q).bind fun r=>giveB s con.vw H con.outs (outsL [] con.outs r) 0 fun _ t=>k t
theorem callD_ok {P:Program}{N:Nat}{cx:Cx}{fn:Func}{R:Ending→World→Prop}{T:TypeId}{con:ConD S}(C:ConDOk P T con){s:TSt S}{m:Md}{vs:List (TV S)}{A:Type}{k:TSt S→Option A}{r:A}(h:callD con m s vs k=some r)
  (hk:∀t:TSt S,LInv t→t.df=s.df→k t=some r→LD P N cx fn R t.er.df (fmd T (con.md m)) t.er):LD P N cx fn R (.clo con.f (TV.er.go s.ln vs)::s.er.df) (fmd T m) s.er:=by
 obtain⟨H,q,c1,c3,h1,h2,h3⟩:=lendQ_some h
 obtain⟨x,hF,hx⟩:=bind_some h1
 refine LD.clo H con.vw (fmd_run T m) C.call h2 h3 c1 (C.ok m q x hF) ?_
 rintro u' st' ⟨hu,rfl⟩
 obtain⟨bk,t,e1,e2,e3,e4,e5⟩:=giveB_some (keys_outsL _ _ _) c3 hx
 have hd:=backS_df e4
 refine⟨bk,t.er,e4,?_⟩
 rw[hu,←hd]
 exact hk t e2 e3.df e1
def findD (f:FuncId):List (ConD S)→Option (ConD S)
 | []=>none
 | c::r=>match Nat.beq c.f f with
  | true=>some c
  | false=>findD f r
theorem findD_ok {f:FuncId}:∀{l:List (ConD S)}{c:ConD S},findD f l=some c→c∈l∧c.f=f
 | [],_,h=>by cases h
 | x::r,c,h=>by
  simp only[findD] at h
  split at h
  ·rename_i hb
   cases h
   exact⟨List.mem_cons_self,Nat.eq_of_beq_eq_true hb⟩
  ·obtain⟨h1,h2⟩:=findD_ok h
   exact⟨List.mem_cons_of_mem _ h1,h2⟩
def runD (tbl:List (ConD S)):List (TV S)→Md→TSt S→(A:Type)→(Md→TSt S→Option A)→Option A
 | [],m,s,_,K=>K m {s with df:=[],last:=[]}
 | .clo f caps::ds,m,s,A,K=>match findD f tbl with
  | some con=>callD con m {s with df:=ds,last:=[]} caps fun s'=>runD tbl ds (con.md m) s' A K
  | none=>none
 | _,_,_,_,_=>none
theorem runD_ok {P : Program} {N : Nat} {cx : Cx} {fn : Func} {R : Ending → World → Prop} {T : TypeId} {tbl : List (ConD S)} (ht : ∀ c ∈ tbl, ConDOk P T c) {A : Type} {K : Md → TSt S → Option A} {r : A}
    (hK : ∀ m t, LInv t → t.df = [] → K m t = some r → LD P N cx fn R [] (fmd T m) t.er) : ∀ {ds : List (TV S)} {m : Md} {s : TSt S}, s.df = ds → runD tbl ds m s A K = some r → LD P N cx fn R s.er.df (fmd T m) s.er
  | [], m, s, hd, h => by
    have h1 := hK m { s with df := [], last := [] } (LInv_nil rfl) rfl h
    have e : s.er.df = [] := by show TV.er.go s.ln s.df = []; rw [hd]; rfl
    rw [e]
    exact h1
  | .clo f caps :: ds, m, s, hd, h => by
    simp only [runD] at h
    split at h
    · rename_i con hcon
      obtain ⟨hm, hf⟩ := findD_ok hcon
      subst hf
      have := callD_ok (cx := cx) (N := N) (fn := fn) (R := R) (ht con hm) h fun t hl hdf hk => runD_ok ht hK hdf hk
      have e : s.er.df = .clo con.f (TV.er.go s.ln caps) :: TV.er.go s.ln ds := by show TV.er.go s.ln s.df = _; rw [hd]; rfl
      rw [e]
      exact this
    · cases h
  | .dat _ _ _ :: _, _, _, _, h => by cases h
  | .ptr _ _ _ :: _, _, _, _, h => by cases h
  | .agg _ :: _, _, _, _, h => by cases h
  | .tup _ :: _, _, _, _, h => by cases h
  | .loc _ _ :: _, _, _, _, h => by cases h
  | .elt _ _ _ _ :: _, _, _, _, h => by cases h
  | .osl _ _ :: _, _, _, _, h => by cases h
  | .sub _ _ _ _ :: _, _, _, _, h => by cases h
  | .yld _ :: _, _, _, _, h => by cases h
  | .mp _ :: _, _, _, _, h => by cases h
  | .ks _ _ _ _ :: _, _, _, _, h => by cases h
  | .kp _ _ _ _ :: _, _, _, _, h => by cases h
  | .kpo _ _ _ _ _ :: _, _, _, _, h => by cases h
  | .val _ :: _, _, _, _, h => by cases h
  | .any :: _, _, _, _, h => by cases h
def defOf:Code→Option (Oper×Oper)
 | .region _ ops false=>match ops.toList with
  | [o1,o2]=>match o1.guard,o2.guard,o2.op,o2.dst with
   | none,none,.defer ⟨.value (.tmp _),⟨[]⟩,_⟩,none=>some (o1,o2)
   | _,_,_,_=>none
  | _=>none
 | _=>none
noncomputable def denS (P:Program) (N fu:Nat) (H:List (Nat×Hint)) (cl:Cl S):Code→Nat→TSt S→(A:Type)→(Exit→TSt S→Option A)→Option A
 | .seq x y,p,s,A,K=>preS (hget H p) s fun s=>denS P N fu H cl x (p+1) s A fun e s'=>match e with
  | .normal=>denS P N fu H cl y (p+1+csize x) s' A K
  | e=>K e s'
 | c,p,s,A,K=>match defOf c with
  | some (o1,o2)=>match o1.dst with
   | some d=>match Nat.blt d N with
    | true=>pyC P s o1.op fun v x=>match o2.op with
     | .defer ⟨.value (.tmp d'),_,_⟩=>match tget (s.putL d v x).frA d' with
      | some (.clo f caps)=>match bnds.contains f with
       | false=>K .normal {s.putL d v x with df:=.clo f caps::(s.putL d v x).df,last:=[]}
       | true=>none
      | _=>none
     | _=>none
    | false=>none
   | none=>none
  | none=>denC P N fu H cl c p s A K
theorem defOf_ok {c:Code}{o1 o2:Oper}(h:defOf c=some (o1,o2)):∃id d' ts ty pos after,c=.region id #[o1,o2] false∧o1.guard=none∧o2=⟨none,.defer ⟨.value (.tmp d'),#[],ts⟩,ty,pos,after,none⟩:=by
 unfold defOf at h
 split at h
 ·rename_i id ops
  split at h
  ·rename_i a b hops
   split at h
   ·rename_i h1 h2 h3 h4
    cases h
    obtain⟨dst2,op2,ty2,pos2,after2,guard2⟩:=o2
    dsimp only at h2 h3 h4
    subst h2;subst h3;subst h4
    refine⟨id,_,_,ty2,pos2,after2,?_,h1,rfl⟩
    have:ops=ops.toList.toArray:=by simp
    rw[this,hops]
   ·cases h
  ·cases h
 ·cases h
theorem denS_ok {P:Program}{N fu:Nat}{H:List (Nat×Hint)}{cl:Cl S}{cx:Cx}(hro:cx.ro=none) (hm:P.follows .mixedOrders=true) (hcl:ClsOk P N cl):∀(c:Code) (p:Nat),RngOk S N H (rngs c p)→∀(s:TSt S) (A:Type) (K:Exit→TSt S→Option A) (r:A),LInv s→denS P N fu H cl c p s A K=some r→
  ∀Q:Exit→St→Prop,(∀e t,LInv t→K e t=some r→Q e t.er)→GW P N cx c Q s.er:=by
 have leaf:∀(c:Code) (p:Nat),RngOk S N H (rngs c p)→∀(s:TSt S) (A:Type) (K:Exit→TSt S→Option A) (r:A),LInv s→(match defOf c with
  | some (o1,o2)=>match o1.dst with
   | some d=>match Nat.blt d N with
    | true=>pyC P s o1.op fun v x=>match o2.op with
     | .defer ⟨.value (.tmp d'),_,_⟩=>match tget (s.putL d v x).frA d' with
      | some (.clo f caps)=>match bnds.contains f with
       | false=>K .normal {s.putL d v x with df:=.clo f caps::(s.putL d v x).df,last:=[]}
       | true=>none
      | _=>none
     | _=>none
    | false=>none
   | none=>none
  | none=>denC P N fu H cl c p s A K)=some r→∀Q:Exit→St→Prop,(∀e t,LInv t→K e t=some r→Q e t.er)→GW P N cx c Q s.er:=by
  intro c p hr s A K r hl h Q hQ
  split at h
  ·rename_i o1 o2 hd
   obtain⟨id,d',ts,ty,pos,after,rfl,hg,rfl⟩:=defOf_ok hd
   split at h
   ·rename_i d hdst
    split at h
    ·rename_i hN
     have hN:d<N:=by simpa[Nat.blt_eq] using hN
     obtain⟨dst,op,ty1,pos1,after1,guard1⟩:=o1
     dsimp only at hdst hg h
     subst hdst;subst hg
     obtain⟨v,x,h1,h2,h3⟩:=pyC_ok (dst:=some d) (ty:=ty1) (pos:=pos1) (after:=after1) (guard:=none) h
     refine GW.region (GL.yield rfl rfl hN (h1.yield []) ?_)
     rw[←putL_er s d v x]
     split at h3
     ·rename_i f caps hx
      split at h3
      rotate_left
      ·cases h3
      rename_i hbf
      refine GL.defer hbf hro (f:=f) (caps:=TV.er.go (s.putL d v x).ln caps) (by
       show AM.get (s.putL d v x).er.fr d'=_
       exact get_erF hx) ?_
      exact GL.nil (show Q .normal (TSt.er {s.putL d v x with df:=.clo f caps::(s.putL d v x).df,last:=[]}) from hQ .normal _ (LInv_nil rfl) h3)
     ·cases h3
    ·cases h
   ·cases h
  ·exact denC_ok hm hcl c p hr (.inr hro) s A K r hl h Q fun e t a _ c=>hQ e t a c
 intro c
 induction c with
 | seq x y ihx ihy=>
  intro p hr s A K r hl h Q hQ
  simp only[denS] at h
  obtain⟨s1,g1,g2,g3,h⟩:=preS_ok hl h
  refine GW.gh g1 (GW.seq (ihx _ hr.app.1 s1 A _ r g2 h _ fun e t hlt hK=>?_))
  cases e with
  | normal=>exact ihy _ hr.app.2 t A K r hlt hK Q hQ
  | _=>exact hQ _ t hlt hK
 | _=>exact fun p hr s A K r hl h Q hQ=>leaf _ p hr s A K r hl (by simpa only[denS] using h) Q hQ
def endM (P:Program) (rvs:List ResultVar) (slots:List (Nat×Sh)) (outs pouts:List (Nat×Oh)):Md→TSt S→Option (tup S.α (JH.tys ⟨slots,outs⟩)⊕((Int×Int)×tup S.α (JH.tys ⟨[],pouts⟩)))
 | none,t=>(endR P (renR P rvs slots t) rvs slots outs).bind fun x=>some (.inl x)
 | some y,t=>(endR P t [] [] pouts).bind fun x=>some (.inr (y,x))
noncomputable def denP (P:Program) (N fu:Nat) (H:List (Nat×Hint)) (cl:Cl S) (tblD:List (ConD S)) (c:Code) (mvs:List Nat) (rvs:List ResultVar) (args:List Sh) (objs:List Oh) (slots:List (Nat×Sh)) (outs pouts:List (Nat×Oh)) (T:TypeId) (q:tup S.α (begTys args objs)):
  Option (tup S.α (JH.tys ⟨slots,outs⟩)⊕((Int×Int)×tup S.α (JH.tys ⟨[],pouts⟩))):=
 match moveT mvs (beginT args objs (leaves _ q)) with
 | some s=>denS P N fu H cl c 0 s _ fun e t=>match e with
  | .ret=>runD tblD t.df none t _ (endM P rvs slots outs pouts)
  | .normal=>runD tblD t.df none t _ (endM P rvs slots outs pouts)
  | .panic ch=>match unthr T ch with
   | some x=>runD tblD t.df (some x) t _ (endM P rvs slots outs pouts)
   | none=>none
  | _=>none
 | none=>none
theorem LD.gw {P:Program}{N:Nat}{cx:Cx}{fn:Func}{R:Ending→World→Prop}{u:FrameMode}{s t:St}(h:Gw s t) (hs:s.df=[]) (ht:t.df=[]) (k:LD P N cx fn R [] u t):LD P N cx fn R [] u s:=fun μ a w hr=>by
 have e1:({s with df:=[]}:St)=s:=by cases s;simp only at hs;subst hs;rfl
 have e2:({t with df:=[]}:St)=t:=by cases t;simp only at ht;subst ht;rfl
 rw[e1] at hr
 obtain⟨μ',hr'⟩:=h N cx μ a w hr
 exact k μ' a w (by rw[e2];exact hr')
theorem end_still {P:Program}{N:Nat}{rvs:List ResultVar}{slots:List (Nat×Sh)}{outs:List (Nat×Oh)}{t:TSt S}{r:tup S.α (JH.tys ⟨slots,outs⟩)}(hl:LInv t) (hr:shapesOk N [] slots outs=true) (hE:endR P t rvs slots outs=some r):
  ∃u:TSt S,Gh t.er u.er∧u.er.df=[]∧Ress P u.er rvs (((fillF slots (leaves _ r)).1.map (·.2)).map (TV.er (lnO (outsL slots outs r))))∧SubSt u.er.st (erS (lnO (outsL slots outs r)) (outsL slots outs r))∧
   fzG u.er.st (erS (lnO (outsL slots outs r)) (outsL slots outs r)) (pack (((fillF slots (leaves _ r)).1.map (·.2)).map (TV.er (lnO (outsL slots outs r)))))=some ((resV slots (leaves _ r)).er (lnO (outsL slots outs r))):=by
 simp only[shapesOk,Bool.and_eq_true] at hr
 obtain⟨_,hr3,hr4⟩:=hr
 obtain⟨u,hg,hdf,r1,O',eu,hln,hown⟩:=endR_ok hl hE
 have hk:keysOf (fillS outs (fillF slots (leaves (JH.tys ⟨slots,outs⟩) r)).2).1=keysOf outs:=fillS_keys _ _
 refine⟨u,hg,hdf,r1,subSt_of (ln:=lnO (outsL slots outs r)) (l:=outsL slots outs r) fun j o hm=>?_,?_⟩
 ·have e1:oget (fillS outs (fillF slots (leaves (JH.tys ⟨slots,outs⟩) r)).2).1 j=some o:=ndK_get (by rw[hk];exact hr4) j o hm
  have e2:oget u.stA j=some o:=by rw[eu,oget_appA,e1]
  rw[show sget u.er.st j=_ from sget_erS e2]
  have hj:o.er u.ln=o.er (lnO (fillS outs (fillF slots (leaves (JH.tys ⟨slots,outs⟩) r)).2).1):=TO.er_good hln o (fillS_good (keysOf outs) outs _ hown j o e1)
  rw[hj]
  rfl
 ·rw[pack_er]
  refine still_ok _ ?_
  rw[show keysOf (outsL slots outs r)=_ from hk]
  exact pack_still _ hr3
theorem shapes_nil {N:Nat}{args:List Sh}{slots:List (Nat×Sh)}{outs:List (Nat×Oh)}(h:shapesOk N args slots outs=true):shapesOk N [] slots outs=true:=by
 simp only[shapesOk,Bool.and_eq_true] at h⊢
 exact⟨by simp[Nat.ble_eq],h.2⟩
theorem endM_ok {P:Program}{N:Nat}{fn:Func}{X:Nat→Prop}{st:List (Nat×Blk)}{μ:Mu}{w:World}{slots:List (Nat×Sh)}{outs pouts:List (Nat×Oh)}{T:TypeId}{m:Md}{t:TSt S}{r:tup S.α (JH.tys ⟨slots,outs⟩)⊕((Int×Int)×tup S.α (JH.tys ⟨[],pouts⟩))}
  (hs:shapesOk N [] slots outs=true) (hp:shapesOk N [] [] pouts=true) (hl:LInv t) (hd:t.df=[]) (h:endM P fn.results.toList slots outs pouts m t=some r):LD P N (cx0 X st μ w) fn (Came X st μ w (AnsP r) (Thr T r)) [] (fmd T m) t.er:=by
 have hd':t.er.df=[]:=by show TV.er.go t.ln t.df=[];rw[hd];rfl
 cases m with
 | none=>
  obtain⟨x,h1,h2⟩:=bind_some h
  cases h2
  obtain⟨g1,g2⟩:=renR_ok (P:=P) (rvs:=fn.results.toList) (l:=slots) hl
  obtain⟨u,a1,a2,a3,a4,a5⟩:=end_still g2 hs h1
  refine LD.gw (g1.trans a1.w) hd' a2 (LD.ret (st':=erS (lnO (outsL slots outs x)) (outsL slots outs x)) ?_ a4 a5 ⟨x,rfl,rfl,rfl⟩)
  have e:({u.er with df:=[]}:St)=u.er:=by rw[←a2]
  rw[e];exact a3
 | some y=>
  obtain⟨x,h1,h2⟩:=bind_some h
  cases h2
  obtain⟨u,a1,a2,a3,a4,a5⟩:=end_still hl hp h1
  exact LD.gw a1.w hd' a2 (LD.pan a4 ⟨_,rfl,rfl,rfl⟩)
theorem ConPOk.of {P:Program}{N fu:Nat}{H:List (Nat×Hint)}{cl:Cl S}{tblD:List (ConD S)}{con:ConP S}{fn:Func}{c:Code}(hm:P.follows .mixedOrders=true) (hcl:ClsOk P N cl) (htD:∀c∈tblD,ConDOk P con.T c)
  (hf:P.funcs[con.f]?=some fn) (hcall:∀args w,(callFunc con.f args).run P w=.ok (.enter con.f args) w) (hb:fn.body=some c) (hN:fn.ntmps=N)
  (hle:shapesOk N con.args con.slots con.outs=true) (hlp:shapesOk N con.args [] con.pouts=true){mvs:List Nat}(h:∀q,denP P N fu H cl tblD c mvs fn.results.toList con.args con.objs con.slots con.outs con.pouts con.T q=con.F q) (hn:isNil (rngs c 0)=true:=by kernel_rfl):ConPOk P con:=
 ⟨hcall,fun q r hF=>by
  have hr0:=hle
  simp only[shapesOk,Bool.and_eq_true] at hr0
  refine GP.ofD hf hb hN (by rw[er_go,List.length_map,fillC_len];exact hr0.1) fun X μ w=>?_
  have e0:(⟨frameOf (TV.er.go (beginT con.args con.objs (leaves _ q)).ln (fillC con.args (leaves _ q)).1) 0,(beginT con.args con.objs (leaves _ q)).er.st,[]⟩:St)=(beginT con.args con.objs (leaves _ q)).er:=by
   rw[←frameOf_er]
   show St.mk _ _ _=St.mk (erF _ (zipN (fillC con.args (leaves _ q)).1 0++[])) _ _
   rw[List.append_nil];rfl
  rw[e0]
  have hD:=(h q).trans hF
  unfold denP at hD
  split at hD
  ·rename_i s0 hmv
   refine moveT_ok (LInv_nil rfl) hmv fun hl0=>?_
   refine denS_ok rfl hm hcl c 0 (RngOk_nil hn) s0 _ _ r hl0 hD _ fun e t hlt hK=>?_
   have fin:∀m t',LInv t'→t'.df=[]→endM P fn.results.toList con.slots con.outs con.pouts m t'=some r→LD P N (cx0 X (beginT con.args con.objs (leaves _ q)).er.st μ w) fn (Came X (beginT con.args con.objs (leaves _ q)).er.st μ w (AnsP r) (Thr con.T r)) [] (fmd con.T m) t'.er:=
    fun m t' a b c=>endM_ok (shapes_nil hle) (shapes_nil hlp) a b c
   split at hK
   ·exact runD_ok htD fin rfl hK
   ·exact runD_ok htD fin rfl hK
   ·rename_i ch
    split at hK
    ·rename_i x hx
     have:=unthr_ok hx
     subst this
     exact runD_ok htD fin rfl hK
    ·cases hK
   ·cases hK
  ·cases hD⟩
def unP {α β:Type}(o:Option (α⊕β)):Option α:=o.bind fun r=>match r with
 | .inl x=>some x
 | .inr _=>none
theorem unP_some {α β:Type}{o:Option (α⊕β)}{x:α}(h:unP o=some x):o=some (.inl x):=by
 obtain⟨y,h1,h2⟩:=bind_some h
 cases y with
 | inl a=>cases h2;exact h1
 | inr b=>cases h2
theorem ConPOk.caught {P:Program}{conP:ConP S}(C:ConPOk P conP){F:tup S.α (begTys conP.args conP.objs)→Option (tup S.α (JH.tys ⟨conP.slots,conP.outs⟩))}(h:∀q r,F q=some r→conP.F q=some (.inl r)):
  ConOk P ⟨conP.f,conP.args,conP.objs,conP.vw,conP.slots,conP.outs,F⟩:=
 ⟨C.call,fun q r hF=>(C.ok q _ (h q r hF)).mono (fun g st ⟨x,hx,hA⟩=>by cases hx;exact hA) (fun ch st ⟨y,hy,_⟩=>by cases hy)⟩
end
end Go.DN
