/-
  DN, second part.
-/
import Derived.Test.YtaobkpnecfcefaaDoorMgC
import Derived.Test.YtaobkpnecfcefaaDoorMgF
set_option linter.unusedSectionVars false
set_option linter.unusedSimpArgs false
set_option linter.unusedVariables false
/-
 DN,part Kd:slices of slices.
-/
namespace Go.DN
open Go.AM
def memN (d:Nat):List Nat→Bool
 | []=>false
 | x::r=>bif Nat.beq x d then true else memN d r
theorem memN_iff {d:Nat}:∀{l:List Nat},memN d l=true↔d∈l
 | []=>by simp[memN]
 | x::r=>by
  simp only[memN,List.mem_cons]
  cases hb:Nat.beq x d with
  | true=>have:=Nat.eq_of_beq_eq_true hb;subst this;simp
  | false=>
   rw[cond_false,memN_iff]
   constructor
   ·exact .inr
   ·rintro(e | h)
    ·subst e;rw[Nat.beq_refl] at hb;cases hb
    ·exact h
section
variable {S:Sig}
theorem LInv_nil {t:TSt S}(h:t.last=[]):LInv t:=fun d hh x hm=>by rw[h] at hm;cases hm
def TV.unK (h:Nat):TV S→TV S
 | .kp x τ i j=>bif Nat.beq x h then .any else .kp x τ i j
 | .kpo b x τ i j=>bif Nat.beq x h&&!b then .any else .kpo b x τ i j
 | .ks x τ i n=>bif Nat.beq x h then .any else .ks x τ i n
 | .agg l=>.agg (go l)
 | .tup l=>.tup (go l)
 | .clo f l=>.clo f (go l)
 | v=>v
where go:List (TV S)→List (TV S)
 | []=>[]
 | v::r=>v.unK h::go r
theorem unK_Pl {h:Nat}{m:G}(hm:Pl m) (f:Bool):AM.unK h (frB f m)=frB f m:=by
 rcases hm with ⟨u,rfl⟩ | ⟨n,cs,rfl⟩ | ⟨b,rfl⟩ <;> cases f <;> rfl
mutual
theorem unK_er (ln:Nat→Nat) (h:Nat):∀v:TV S,(v.unK h).er ln=AM.unK h (v.er ln)
 | .dat f τ a=>by
  cases τ with
  | st n=>
   show G.agg ((encT S (.st n) a).map (frB f))=.agg (AM.unK.go h ((encT S (.st n) a).map (frB f)))
   have hp:=enc_Pl (S:=S) (.st n) a
   generalize encT S (.st n) a=l at hp
   congr 1
   induction l with
   | nil=>rfl
   | cons x r ih=>
    simp only[List.map_cons,AM.unK.go]
    rw[unK_Pl (hp x List.mem_cons_self),←ih fun y hy=>hp y (List.mem_cons_of_mem _ hy)]
  | _=>cases f <;> rfl
 | .ptr f τ a=>by cases f <;> rfl
 | .agg l=>by show G.agg _=G.agg _;rw[unK_erL ln h l]
 | .tup l=>by show G.tup _=G.tup _;rw[unK_erL ln h l]
 | .clo f l=>by show G.clo _ _=G.clo _ _;rw[unK_erL ln h l]
 | .kp x τ i j=>by
  show(bif Nat.beq x h then(TV.any:TV S) else .kp x τ i j).er ln=bif Nat.beq x h then G.any else .kp x i (j*S.sz τ)
  cases Nat.beq x h <;> rfl
 | .kpo b x τ i j=>by
  cases b with
  | true=>
   show(bif Nat.beq x h&&false then _ else _:TV S).er ln=.val _
   rw[Bool.and_false];rfl
  | false=>
   show(bif Nat.beq x h&&true then _ else _:TV S).er ln=bif Nat.beq x h then G.any else .kp x i (j*S.sz τ)
   cases Nat.beq x h <;> rfl
 | .ks x τ i n=>by
  show(bif Nat.beq x h then(TV.any:TV S) else .ks x τ i n).er ln=bif Nat.beq x h then G.any else .ks x i (S.sz τ) n
  cases Nat.beq x h <;> rfl
 | .loc _ _=>rfl
 | .elt _ _ _ _=>rfl
 | .osl _ _=>rfl
 | .sub _ _ _ _=>rfl
 | .yld _=>rfl
 | .mp _=>rfl
 | .val _=>rfl
 | .any=>rfl
theorem unK_erL (ln:Nat→Nat) (h:Nat):∀l:List (TV S),TV.er.go ln (TV.unK.go h l)=AM.unK.go h (TV.er.go ln l)
 | []=>rfl
 | v::r=>by simp only[TV.unK.go,TV.er.go,AM.unK.go,unK_er ln h v,unK_erL ln h r]
end
mutual
theorem unK_id {h:Nat}:∀v:TV S,v.has h=false→v.unK h=v
 | .kp x τ i j,e=>by
  show(bif Nat.beq x h then _ else _)=_
  rw[show Nat.beq x h=false from e];rfl
 | .kpo b x τ i j,e=>by
  have e:(Nat.beq x h&&!b)=false:=e
  show(bif Nat.beq x h&&!b then _ else _)=_
  rw[e];rfl
 | .ks x τ i n,e=>by
  show(bif Nat.beq x h then _ else _)=_
  rw[show Nat.beq x h=false from e];rfl
 | .agg l,e=>congrArg TV.agg (unK_idL l e)
 | .tup l,e=>congrArg TV.tup (unK_idL l e)
 | .clo f l,e=>congrArg (TV.clo f) (unK_idL l e)
 | .dat _ _ _,_=>rfl
 | .ptr _ _ _,_=>rfl
 | .loc _ _,_=>rfl
 | .elt _ _ _ _,_=>rfl
 | .osl _ _,_=>rfl
 | .sub _ _ _ _,_=>rfl
 | .yld _,_=>rfl
 | .mp _,_=>rfl
 | .val _,_=>rfl
 | .any,_=>rfl
theorem unK_idL {h:Nat}:∀l:List (TV S),TV.has.go h l=false→TV.unK.go h l=l
 | [],_=>rfl
 | v::r,e=>by
  simp only[TV.has.go,Bool.or_eq_false_iff] at e
  simp only[TV.unK.go,unK_id v e.1,unK_idL r e.2]
end
theorem get_unKFr_of {h t:Nat}:∀{fr:List (Nat×G)}{g:G},AM.get fr t=some g→AM.get (unKFr h fr) t=some (AM.unK h g)
 | [],_,e=>by cases e
 | (k,g')::r,g,e=>by
  simp only[AM.get] at e
  simp only[unKFr,AM.get]
  cases hb:Nat.beq k t with
  | true=>rw[hb] at e;cases e;rfl
  | false=>rw[hb] at e;exact get_unKFr_of e
def hasL (v:TV S):List Nat→Bool
 | []=>false
 | x::r=>v.has x||hasL v r
def TV.fk (h:Nat) (rm:List Nat) (v:TV S):TV S:=match hasL v rm with | true=>.any | false=>v.unK h
def fkF (h:Nat) (rm:List Nat):List (Nat×TV S)→List (Nat×TV S)
 | []=>[]
 | (t,v)::r=>(t,v.fk h rm)::fkF h rm r
def TO.fk (h:Nat) (rm:List Nat):TO S→TO S
 | .box e m cs=>.box e m (cs.map (TV.fk h rm))
 | .lp l n cs=>.lp l n (cs.map (TV.fk h rm))
 | o=>o
def fkS (h:Nat) (rm:List Nat):List (Nat×TO S)→List (Nat×TO S)
 | []=>[]
 | (t,o)::r=>match memN t rm with
  | true=>fkS h rm r
  | false=>(t,o.fk h rm)::fkS h rm r
def TSt.hand (s:TSt S) (h:Nat) (rm:List Nat) (o:TO S):TSt S:={s with fr:=fkF h rm s.fr,st:=(h,o)::fkS h rm s.st,last:=[]}
def inner (s:TSt S):List Nat→Bool
 | []=>true
 | x::r=>(match oget s.lst x with | none=>true | some _=>false)&&(!(TV.has.go x s.df)&&(!(frHas x s.lo)&&!(stHas x s.lst)))&&inner s r
theorem fk_id {h:Nat}{rm:List Nat}{v:TV S}(h1:v.has h=false) (h2:hasL v rm=false):v.fk h rm=v:=by
 unfold TV.fk;rw[h2];exact unK_id v h1
theorem fk_len (h:Nat) (rm:List Nat) (o:TO S):(o.fk h rm).len=o.len:=by cases o <;> rfl
theorem tget_fkF {h:Nat}{rm:List Nat}:∀{fr:List (Nat×TV S)}{d:Nat},tget (fkF h rm fr) d=(tget fr d).map (TV.fk h rm)
 | [],_=>rfl
 | (t,v)::r,d=>by
  simp only[fkF,tget]
  cases Nat.beq t d with
  | true=>rfl
  | false=>exact tget_fkF
theorem oget_fkS {h:Nat}{rm:List Nat}:∀{st:List (Nat×TO S)}{x:Nat},oget (fkS h rm st) x=match memN x rm with | true=>none | false=>(oget st x).map (TO.fk h rm)
 | [],x=>by simp only[fkS,oget,Option.map_none];cases memN x rm <;> rfl
 | (t,o)::r,x=>by
  simp only[fkS]
  split
  ·rename_i hm
   rw[oget_fkS]
   simp only[oget]
   cases hb:Nat.beq t x with
   | true=>
    have:=Nat.eq_of_beq_eq_true hb
    subst this
    rw[hm]
   | false=>rfl
  ·rename_i hm
   simp only[oget]
   cases hb:Nat.beq t x with
   | true=>
    have:=Nat.eq_of_beq_eq_true hb
    subst this
    rw[hm];rfl
   | false=>exact oget_fkS
theorem hasL_no {v:TV S}:∀{rm:List Nat},(∀x,x∈rm→v.has x=false)→hasL v rm=false
 | [],_=>rfl
 | x::r,h=>by simp only[hasL,h x List.mem_cons_self,hasL_no fun y hy=>h y (List.mem_cons_of_mem _ hy),Bool.or_self]
theorem hasL_spec {v:TV S}:∀{rm:List Nat},hasL v rm=false→∀x,x∈rm→v.has x=false
 | [],_,_,hm=>by cases hm
 | x::r,h,y,hm=>by
  simp only[hasL,Bool.or_eq_false_iff] at h
  rcases List.mem_cons.1 hm with rfl | hm
  ·exact h.1
  ·exact hasL_spec h.2 y hm
theorem inner_spec {s:TSt S}:∀{rm:List Nat},inner s rm=true→∀x,x∈rm→oget s.lst x=none∧TV.has.go x s.df=false∧frHas x s.lo=false∧stHas x s.lst=false
 | [],_,_,hm=>by cases hm
 | y::r,h,x,hm=>by
  simp only[inner,Bool.and_eq_true,Bool.not_eq_true'] at h
  rcases List.mem_cons.1 hm with rfl | hm
  ·refine⟨?_,h.1.2.1,h.1.2.2.1,h.1.2.2.2⟩
   cases hq:oget s.lst x with
   | none=>rfl
   | some o=>rw[hq] at h;cases h.1.1
  ·exact inner_spec h.2 x hm
theorem hand_stA {s:TSt S}{h:Nat}{rm:List Nat}{o:TO S}(hi:inner s (h::rm)=true) (hh:h∉rm) (x:Nat):oget (s.hand h rm o).stA x=bif Nat.beq h x then some o else match memN x rm with | true=>none | false=>(oget s.stA x).map (TO.fk h rm):=by
 show oget ((h,o)::(fkS h rm s.st++s.lst)) x=_
 simp only[oget]
 cases hb:Nat.beq h x with
 | true=>rfl
 | false=>
  simp only[cond_false]
  rw[oget_appA,oget_fkS]
  show _=match memN x rm with | true=>none | false=>(oget (s.st++s.lst) x).map (TO.fk h rm)
  rw[oget_appA]
  cases hm:memN x rm with
  | true=>exact(inner_spec hi x (List.mem_cons_of_mem _ (memN_iff.1 hm))).1
  | false=>
   dsimp only
   cases h1:oget s.st x with
   | some o=>rfl
   | none=>
    show oget s.lst x=(oget s.lst x).map _
    cases h2:oget s.lst x with
    | none=>rfl
    | some o2=>
     rw[Option.map_some]
     have hn:∀y,y∈h::rm→o2.has y=false:=fun y hy=>stHas_get h2 (inner_spec hi y hy).2.2.2
     have hL:∀l:List (TV S),(∀y,y∈h::rm→TV.has.go y l=false)→l.map (TV.fk h rm)=l:=by
      intro l
      induction l with
      | nil=>intro _;rfl
      | cons v r ih=>
       intro hv
       have hv':∀y,y∈h::rm→v.has y=false∧TV.has.go y r=false:=fun y hy=>by
        have:=hv y hy
        simpa[TV.has.go] using this
       rw[List.map_cons,ih fun y hy=>(hv' y hy).2,fk_id (hv' h List.mem_cons_self).1 (hasL_no fun y hy=>(hv' y (List.mem_cons_of_mem _ hy)).1)]
     cases o2 with
     | box e m cs=>simp only[TO.fk];rw[hL cs hn]
     | lp l n cs=>simp only[TO.fk];rw[hL cs hn]
     | _=>rfl
theorem hand_frA {s:TSt S}{h:Nat}{rm:List Nat}{o:TO S}(hi:inner s (h::rm)=true) (d:Nat):tget (s.hand h rm o).frA d=(tget s.frA d).map (TV.fk h rm):=by
 show tget (fkF h rm s.fr++s.lo) d=(tget (s.fr++s.lo) d).map _
 rw[tget_app,tget_app,tget_fkF]
 cases tget s.fr d with
 | some v=>rfl
 | none=>
  show tget s.lo d=(tget s.lo d).map _
  cases h2:tget s.lo d with
  | none=>rfl
  | some v=>rw[Option.map_some,fk_id (frHas_get h2 (inner_spec hi h List.mem_cons_self).2.2.1) (hasL_no fun y hy=>frHas_get h2 (inner_spec hi y (List.mem_cons_of_mem _ hy)).2.2.1)]
theorem hand_ok {s:TSt S}{h:Nat}{rm:List Nat}{o o':TO S}{s1:St}(ho:oget s.st h=some o) (hlen:o'.len=o.len) (hln:∀ln ln',o'.er ln=o'.er ln') (hi:inner s (h::rm)=true) (hh:h∉rm)
  (h1:s1.fr=unKFr h s.er.fr) (h2:sget s1.st h=some (o'.er s.ln)) (h3:∀x k0,x≠h→x∉rm→sget s.er.st x=some k0→sget s1.st x=some (unKB h k0)) (h4:s1.df=AM.unK.go h s.er.df):
  Gh s1 (s.hand h rm o').er∧LInv (s.hand h rm o')∧Keep s (s.hand h rm o'):=by
 have hag:∀x,x∉rm→s.ln x=(s.hand h rm o').ln x:=by
  intro x hx
  show lnO s.stA x=lnO (s.hand h rm o').stA x
  unfold lnO
  rw[hand_stA hi hh]
  cases hb:Nat.beq h x with
  | true=>
   have:=Nat.eq_of_beq_eq_true hb
   subst this
   rw[stA_of ho];exact hlen.symm
  | false=>
   have hm:memN x rm=false:=by
    cases hm:memN x rm with
    | false=>rfl
    | true=>exact absurd (memN_iff.1 hm) hx
   rw[hm]
   simp only[cond_false]
   cases oget s.stA x with
   | none=>rfl
   | some o=>exact(fk_len h rm o).symm
 have hcv:∀v:TV S,CV s1.st (s.hand h rm o').er.st (AM.unK h (v.er s.ln)) ((v.fk h rm).er (s.hand h rm o').ln):=by
  intro v
  unfold TV.fk
  cases hv:hasL v rm with
  | true=>exact CV.any _ _ _
  | false=>
   dsimp only
   rw[unK_er,er_congr (ln:=s.ln) (ln':=(s.hand h rm o').ln) v fun k hk=>hag k fun hm=>by rw[hasL_spec hv k hm] at hk;cases hk]
   exact CV.refl _ _ _
 have hcvL:∀cs:List (TV S),CVL s1.st (s.hand h rm o').er.st (AM.unK.go h (TV.er.go s.ln cs)) (TV.er.go (s.hand h rm o').ln (cs.map (TV.fk h rm))):=by
  intro cs
  induction cs with
  | nil=>exact⟨rfl,fun j g' hg'=>by simp[TV.er.go] at hg'⟩
  | cons v r ih=>
   refine⟨by simp only[List.map_cons,TV.er.go,AM.unK.go,List.length_cons,ih.1],fun j g' hg'=>?_⟩
   simp only[List.map_cons,TV.er.go,AM.unK.go] at hg'⊢
   cases j with
   | zero=>cases hg';exact⟨_,rfl,hcv v⟩
   | succ j=>exact ih.2 j g' hg'
 refine⟨Gh.gen (fun d g' hg'=>?_) (fun x k' hk'=>?_) ?_,LInv_nil rfl,⟨rfl,rfl,rfl⟩⟩
 ·obtain⟨v',e1,rfl⟩:=get_erF' hg'
  rw[hand_frA hi] at e1
  obtain⟨v,e2,rfl⟩:=Option.map_eq_some_iff.1 e1
  refine⟨AM.unK h (v.er s.ln),?_,hcv v⟩
  rw[h1]
  exact get_unKFr_of (get_erF e2)
 ·obtain⟨o2,e1,rfl⟩:=sget_erS' hk'
  rw[hand_stA hi hh] at e1
  cases hb:Nat.beq h x with
  | true=>
   rw[hb] at e1
   cases e1
   have:=Nat.eq_of_beq_eq_true hb
   subst this
   refine⟨_,h2,?_⟩
   rw[hln (s.hand h rm o').ln s.ln]
   exact BCV.refl _ _ _
  | false=>
   rw[hb] at e1
   simp only[cond_false] at e1
   split at e1
   ·cases e1
   ·rename_i hm
    obtain⟨o3,e2,rfl⟩:=Option.map_eq_some_iff.1 e1
    refine⟨_,h3 x _ (fun e=>by subst e;rw[Nat.beq_refl] at hb;cases hb) (fun e=>by rw[memN_iff.2 e] at hm;cases hm) (sget_erS e2),?_⟩
    cases o3 with
    | box e m cs=>exact⟨rfl,id,rfl,rfl,rfl,(hcvL cs).1,.inr ⟨rfl,(hcvL cs).2⟩⟩
    | lp l n cs=>exact⟨rfl,id,rfl,rfl,rfl,(hcvL cs).1,.inr ⟨rfl,(hcvL cs).2⟩⟩
    | arr e m f τ l=>exact BCV.refl _ _ _
    | deep e m f dk τ a=>exact BCV.refl _ _ _
 ·rw[h4]
  show AM.unK.go h (TV.er.go s.ln s.df)=TV.er.go (s.hand h rm o').ln s.df
  have hd:=fun x hx=>(inner_spec hi x hx).2.1
  rw[←unK_erL,unK_idL _ (hd h List.mem_cons_self)]
  exact er_congrL _ fun k hk=>hag k fun hm=>by rw[hd k (List.mem_cons_of_mem _ hm)] at hk;cases hk
def allNil {α:Type}:List (List α)→Bool
 | []=>true
 | []::r=>allNil r
 | (_::_)::_=>false
theorem allNil_mem {α:Type}:∀{l:List (List α)},allNil l=true→∀r,r∈l→r=[]
 | []::l,h,r,hm=>by
  rcases List.mem_cons.1 hm with e | hm
  ·exact e
  ·exact allNil_mem (l:=l) h r hm
 | (_::_)::_,h,_,_=>by cases h
theorem nilRows (t:Ty):∀{l:List (List (S.D t))},allNil l=true→(List.flatMap (encT S (.list t)) l).map (fun _=>((0,[]):Nat×List G))=List.map (fun r=>(List.length r,List.flatMap (encT S t) r)) l
 | [],_=>rfl
 | x::r,h=>by
  have hx:=allNil_mem h x List.mem_cons_self
  subst hx
  rw[List.flatMap_cons,List.map_append,nilRows t (l:=r) h];rfl
def thawT (s:TSt S) (h kty:Nat){A:Type}(k:TSt S→Option A):Option A:=
 match Nat.blt h 1000&&inner s [h] with
 | true=>match oget s.st h with
  | some (.arr e m f (.list t) l)=>(chk (allNil l=true)).bind fun _=>k (s.hand h [] (.deep e m f (.fam kty) (.list (.list t)) l))
  | _=>none
 | false=>none
theorem thawT_ok {s:TSt S}{h kty:Nat}{A:Type}{k:TSt S→Option A}{r:A}(hl:LInv s) (e:thawT s h kty k=some r):∃t,Gh s.er t.er∧LInv t∧Keep s t∧k t=some r:=by
 unfold thawT at e
 split at e
 ·rename_i hc
  simp only[Bool.and_eq_true] at hc
  split at e
  ·rename_i ety m f t l ho
   obtain⟨_,h1,e⟩:=bind_some e
   have h1:=chk_spec h1
   have hk:=sget_st (stA_of ho)
   have hcs:∀g∈((TO.arr ety m f (.list t) l:TO S).er s.ln).cells,g=.sl 0 []:=by
    intro g hg
    have hg:g∈List.flatMap (encT S (.list t)) l:=hg
    obtain⟨r,hr,hg⟩:=List.mem_flatMap.1 hg
    rw[allNil_mem h1 r hr] at hg
    exact List.mem_singleton.1 hg
   have hrows:(((TO.arr ety m f (.list t) l:TO S).er s.ln).cells.map fun _=>((0,[]):Nat×List G))=(famRows (.list (.list t)) l).2:=by
    exact nilRows t h1
   obtain⟨g1,g2,g3⟩:=hand_ok (s:=s) (h:=h) (rm:=[]) (o':=.deep ety m f (.fam kty) (.list (.list t)) l)
    (s1:={fr:=unKFr h s.er.fr,st:=sset (unKSt h s.er.st) h {((TO.arr ety m f (.list t) l:TO S).er s.ln) with cells:=[],lp:=some (.deep (famDp ety kty (S.sz t) (famRows (.list (.list t)) l).2))},df:=AM.unK.go h s.er.df})
    ho rfl (fun _ _=>rfl) hc.2 (by simp) rfl (by rw[sget_sset_same (sget_unKSt_of hk)];rfl) (fun x k0 hx _ h0=>by show sget (sset _ _ _) _=_;rw[sget_sset_other hx];exact sget_unKSt_of h0) rfl
   refine⟨_,Gh.trans (fun N cx μ a w hr=>?_) g1,g2,g3,e⟩
   have:=hr.thaw hk rfl rfl rfl hcs (not_pinned hc.1) kty (S.sz t)
   rw[hrows] at this
   exact this
  ·cases e
 ·cases e
def unfamT (s:TSt S) (h:Nat):Option (TSt S):=
 match Nat.blt h 1000&&inner s [h] with
 | true=>match oget s.st h with
  | some (.deep e true f (.fam _) (.list (.list t)) l)=>some (s.hand h [] (.arr e true f (.list t) l))
  | _=>none
 | false=>none
theorem unfamT_ok {s t:TSt S}{h:Nat}(hl:LInv s) (e:unfamT s h=some t):Gh s.er t.er∧LInv t∧Keep s t:=by
 unfold unfamT at e
 split at e
 ·rename_i hc
  simp only[Bool.and_eq_true] at hc
  split at e
  ·rename_i ety f kty t l ho
   cases e
   have hk:=sget_st (stA_of ho)
   have hrows:(famRows (.list (.list t)) l).2.map (fun r=>G.sl r.1 r.2)=List.flatMap (encT S (.list t)) l:=by
    show List.map _ (List.map _ l)=_
    clear ho hk
    induction l with
    | nil=>rfl
    | cons x r ih=>rw[List.map_cons,List.map_cons,ih,List.flatMap_cons];rfl
   obtain⟨g1,g2,g3⟩:=hand_ok (s:=s) (h:=h) (rm:=[]) (o':=.arr ety true f (.list t) l)
    (s1:={fr:=unKFr h s.er.fr,st:=sset (unKSt h s.er.st) h {((TO.deep ety true f (.fam kty) (.list (.list t)) l:TO S).er s.ln) with cells:=(famRows (.list (.list t)) l).2.map (fun r=>G.sl r.1 r.2),lp:=none},df:=AM.unK.go h s.er.df})
    ho rfl (fun _ _=>rfl) hc.2 (by simp) rfl (by rw[sget_sset_same (sget_unKSt_of hk),hrows];rfl) (fun x k0 hx _ h0=>by show sget (sset _ _ _) _=_;rw[sget_sset_other hx];exact sget_unKSt_of h0) rfl
   exact⟨Gh.trans (fun N cx μ a w hr=>hr.unfam hk rfl rfl rfl rfl (not_pinned hc.1)) g1,g2,g3⟩
  ·cases e
 ·cases e
def allL (t:Ty):List Ty→Bool
 | []=>true
 | x::r=>decide (x=.list t)&&allL t r
theorem allL_mem {t:Ty}:∀{l:List Ty},allL t l=true→∀x∈l,x=.list t
 | [],_,x,h=>by cases h
 | y::r,e,x,h=>by
  simp only[allL,Bool.and_eq_true,decide_eq_true_eq] at e
  rcases List.mem_cons.1 h with rfl | h
  ·exact e.1
  ·exact allL_mem e.2 x h
def rowTy (n:Nat):Option Ty:=match S.tys n with
 | .list t::r=>match allL t r with
  | true=>some t
  | false=>none
 | _=>none
theorem rowTy_ok {n:Nat}{t:Ty}(h:rowTy (S:=S) n=some t):∀x∈S.tys n,x=.list t:=by
 unfold rowTy at h
 split at h
 ·rename_i t' r e
  split at h
  ·rename_i hr
   cases h
   rw[e]
   intro x hx
   rcases List.mem_cons.1 hx with rfl | hx
   ·rfl
   ·exact allL_mem hr x hx
  ·cases h
 ·cases h
theorem rowTy_sz {n:Nat}{t:Ty}(h:rowTy (S:=S) n=some t):rowSz (S:=S) (S.tys n)=S.sz t:=by
 have h1:=rowTy_ok h
 have h2:=S.pos n
 cases e:S.tys n with
 | nil=>exact absurd e h2
 | cons x r=>
  rw[h1 x (by rw[e];exact List.mem_cons_self)]
  rfl
theorem rowL_leaf {x:Leaf S.α}{t:Ty}(h:x.τ=.list t):cellG S x.τ x.a=.sl (rowL x).1 (rowL x).2:=by
 obtain⟨τ,a⟩:=x
 dsimp only at h
 subst h
 rfl
theorem rows_cells {n:Nat}{t:Ty}(h:rowTy (S:=S) n=some t) (l:List (S.α n)):(rowsT (.list (.st n)) l:Nat×Nat×List (Nat×List G)).2.2.map (fun r=>G.sl r.1 r.2)=List.flatMap (encT S (.st n)) l:=by
 show List.map _ (List.flatMap _ l)=_
 rw[List.map_flatMap]
 congr 1
 funext a
 rw[enc_st,List.map_map]
 refine List.map_congr_left fun x hx=>?_
 have h1:=rowTy_ok h x.τ (by rw[←S.tys_cells n a];exact List.mem_map_of_mem hx)
 exact(rowL_leaf h1).symm
def unrowsT (s:TSt S) (h:Nat):Option (TSt S):=
 match Nat.blt h 1000&&inner s [h] with
 | true=>match oget s.st h with
  | some (.deep e true f (.rows _ none) (.list (.st n)) l)=>match rowTy (S:=S) n with
   | some _=>some (s.hand h [] (.arr e true f (.st n) l))
   | none=>none
  | _=>none
 | false=>none
theorem unrowsT_ok {s t:TSt S}{h:Nat}(hl:LInv s) (e:unrowsT s h=some t):Gh s.er t.er∧LInv t∧Keep s t:=by
 unfold unrowsT at e
 split at e
 ·rename_i hc
  simp only[Bool.and_eq_true] at hc
  split at e
  ·rename_i ety f kty n l ho
   split at e
   ·rename_i t0 ht
    cases e
    have hk:=sget_st (stA_of ho)
    obtain⟨g1,g2,g3⟩:=hand_ok (s:=s) (h:=h) (rm:=[]) (o':=.arr ety true f (.st n) l)
     (s1:={fr:=unKFr h s.er.fr,st:=sset (unKSt h s.er.st) h {((TO.deep ety true f (.rows kty none) (.list (.st n)) l:TO S).er s.ln) with sz:=(S.tys n).length,cells:=(rowsT (.list (.st n)) l:Nat×Nat×List (Nat×List G)).2.2.map (fun r=>G.sl r.1 r.2),lp:=none},df:=AM.unK.go h s.er.df})
     ho rfl (fun _ _=>rfl) hc.2 (by simp) rfl (by rw[sget_sset_same (sget_unKSt_of hk),rows_cells ht];rfl) (fun x k0 hx _ h0=>by show sget (sset _ _ _) _=_;rw[sget_sset_other hx];exact sget_unKSt_of h0) rfl
    exact⟨Gh.trans (fun N cx μ a w hr=>hr.unrows hk rfl rfl rfl (not_pinned hc.1)) g1,g2,g3⟩
   ·cases e
  ·cases e
 ·cases e
def isRows (s:TSt S) (h:Nat):Bool:=match oget s.stA h with
 | some (.deep _ _ _ (.rows _ _) _ _)=>true
 | _=>false
def isDeep (s:TSt S) (h:Nat):Bool:=match oget s.stA h with
 | some (.deep ..)=>true
 | _=>false
def freezeT (s:TSt S) (h:Nat):Option (TSt S):=
 match isDeep s h with
 | true=>match (match isRows s h with | true=>unrowsT s h | false=>unfamT s h) with
  | some s'=>freezeA s' h
  | none=>none
 | false=>freezeA s h
theorem freezeT_ok {s t:TSt S}{h:Nat}(hl:LInv s) (hf:freezeT s h=some t):Gh s.er t.er∧LInv t∧Keep s t:=by
 unfold freezeT at hf
 split at hf
 ·split at hf
  ·rename_i s' hs
   have hs2:Gh s.er s'.er∧LInv s'∧Keep s s':=by
    split at hs
    ·exact unrowsT_ok hl hs
    ·exact unfamT_ok hl hs
   obtain⟨a1,a2,a3⟩:=hs2
   obtain⟨b1,b2,b3⟩:=freezeA_ok a2 hf
   exact⟨a1.trans b1,b2,a3.trans b3⟩
  ·cases hf
 ·exact freezeA_ok hl hf
def famPutC {A:Type}:(dk:Dk)→(τ':Ty)→S.D τ'→Ty→TypeId→Ty→(τ2:Ty)→List (S.D τ2)→Nat→(S.D τ'→Option A)→Option A
 | .fam kty,.list (.list u),ll,τ,e2,t2,τ2,l2,i,k=>match Nat.beq e2 kty with
  | true=>match decEq τ (.list u),decEq t2 u with
   | isTrue _,isTrue _=>match castT (.list τ2) (.list u) l2 with
    | some l=>(chk (i<List.length ll)).bind fun _=>k (List.set ll i l)
    | none=>none
   | _,_=>none
  | false=>none
 | _,_,_,_,_,_,_,_,_,_=>none
theorem famPutC_ok {A:Type}{r0:A}:∀{dk:Dk}{τ':Ty}{a:S.D τ'}{τ:Ty}{e2:TypeId}{t2 τ2:Ty}{l2:List (S.D τ2)}{i:Nat}{k:S.D τ'→Option A},famPutC dk τ' a τ e2 t2 τ2 l2 i k=some r0→
  ∃a',dk=.fam e2∧τ=.list t2∧t2=τ2∧(famRows τ' a).1=S.sz τ2∧i<(famRows τ' a).2.length∧k a'=some r0∧tlen τ' a'=tlen τ' a∧(famRows τ' a').1=(famRows τ' a).1∧
   (famRows τ' a').2=(famRows τ' a).2.set i (List.length l2,List.flatMap (encT S τ2) l2)
 | .fam kty,.list (.list u),ll,τ,e2,t2,τ2,l2,i,k,h=>by
  simp only[famPutC] at h
  split at h
  ·rename_i he
   have he:=Nat.eq_of_beq_eq_true he
   subst he
   split at h
   ·rename_i q1 q2 _ _
    subst q1;subst q2
    split at h
    ·rename_i l hl
     obtain⟨q,hl⟩:=castT_list hl
     subst q
     cases hl
     obtain⟨_,h1,h⟩:=bind_some h
     have h1:=chk_spec h1
     refine⟨_,rfl,rfl,rfl,rfl,by show i<(List.map _ ll).length;rw[List.length_map];exact h1,h,by show(List.set ll i l2).length=ll.length;exact List.length_set,rfl,?_⟩
     show List.map _ (List.set ll i l2)=List.set (List.map _ ll) i _
     rw[List.map_set]
    ·cases h
   ·cases h
  ·cases h
 | .fam _,.list (.int _),_,_,_,_,_,_,_,_,h=>by cases h
 | .fam _,.list .bool,_,_,_,_,_,_,_,_,h=>by cases h
 | .fam _,.list .ifc,_,_,_,_,_,_,_,_,h=>by cases h
 | .fam _,.list .str,_,_,_,_,_,_,_,_,h=>by cases h
 | .fam _,.list (.st _),_,_,_,_,_,_,_,_,h=>by cases h
 | .fam _,.int _,_,_,_,_,_,_,_,_,h=>by cases h
 | .fam _,.bool,_,_,_,_,_,_,_,_,h=>by cases h
 | .fam _,.ifc,_,_,_,_,_,_,_,_,h=>by cases h
 | .fam _,.str,_,_,_,_,_,_,_,_,h=>by cases h
 | .fam _,.st _,_,_,_,_,_,_,_,_,h=>by cases h
def famStC (P:Program) (ok:Nat→Bool) (s:TSt S) (t:TypeId) (x y:Operand){A:Type}(k:TSt S→Option A):Option A:=
 match tev s x with
 | some (.elt h τ i 0)=>match tev s y with
  | some (.osl h2 t2)=>match ok h&&(ok h2&&(Nat.blt h 1000&&(!(Nat.beq h2 h)&&inner s [h,h2]))) with
   | true=>match oget s.st h with
    | some (.deep e m f dk τ' a)=>match oget s.st h2 with
     | some (.arr e2 m2 f2 τ2 l2)=>match decEq (sizP P t) (some 1) with
      | isTrue _=>match !m||m2 with
       | true=>famPutC dk τ' a τ e2 t2 τ2 l2 i fun a'=>k (s.hand h [h2] (.deep e m (f&&f2) dk τ' a'))
       | false=>none
      | isFalse _=>none
     | _=>none
    | _=>none
   | false=>none
  | _=>none
 | _=>none
theorem famStC_ok {P:Program}{W:List Nat}{ok:Nat→Bool}(hokW:∀h,ok h=true→W.contains h=true){s:TSt S}{t:TypeId}{x y:Operand}{ty:TypeId}{pos:String}{after:Array Edge}{guard:Option (Nat×Bool)}{A:Type}{k:TSt S→Option A}{r:A}
  (hl:LInv s) (h:famStC P ok s t x y k=some r):EfOk P W s ⟨none,.store t x y,ty,pos,after,guard⟩ k r:=by
 unfold famStC at h
 split at h
 ·rename_i hh τ i hx
  split at h
  ·rename_i h2 t2 hy
   split at h
   ·rename_i hc
    simp only[Bool.and_eq_true,Bool.not_eq_true'] at hc
    obtain⟨c1,c2,c3,c4,c5⟩:=hc
    split at h
    ·rename_i e m f dk τ' a ho
     split at h
     ·rename_i e2 m2 f2 τ2 l2 ho2
      split at h
      ·rename_i hsz _
       split at h
       ·rename_i hm
        obtain⟨a',q1,q2,q3,q4,q5,q6,q7,q8,q9⟩:=famPutC_ok h
        subst q1;subst q2;subst q3
        have hk:=sget_st (stA_of ho)
        have hk2:=sget_st (stA_of ho2)
        have hne:hh≠h2:=fun e=>by subst e;rw[Nat.beq_refl] at c4;cases c4
        have hkd:sget (sdel s.er.st h2) hh=some _:=sget_sdel_of hne hk
        have hoE:(TO.deep e m (f&&f2) (.fam e2) τ' a':TO S).er s.ln=⟨e,true,m,f&&f2,1,[],some (.deep (famDp e e2 (famRows τ' a).1 ((famRows τ' a).2.set i (List.length l2,List.flatMap (encT S t2) l2))))⟩:=by
         show Blk.mk _ _ _ _ _ _ (some (.deep (famDp e e2 (famRows τ' a').1 (famRows τ' a').2)))=_
         rw[q8,q9]
        obtain⟨g1,g2,g3⟩:=hand_ok (s:=s) (h:=hh) (rm:=[h2]) (o':=.deep e m (f&&f2) (.fam e2) τ' a')
         (s1:={fr:=unKFr hh s.er.fr,st:=sset (unKSt hh (sdel s.er.st h2)) hh ⟨e,true,m,f&&f2,1,[],some (.deep (famDp e e2 (famRows τ' a).1 ((famRows τ' a).2.set i (List.length l2,List.flatMap (encT S t2) l2))))⟩,df:=AM.unK.go hh s.er.df})
         ho q7 (fun _ _=>rfl) c5 (by simpa using hne) rfl (by rw[hoE,sget_sset_same (sget_unKSt_of hkd)]) (fun x k0 hx1 hx2 h0=>by
          show sget (sset _ _ _) _=_
          rw[sget_sset_other hx1]
          exact sget_unKSt_of (sget_sdel_of (by simpa using hx2) h0)) rfl
        refine .one _ (EF.famStore (P:=P) (W:=W) (t:=t) (x:=x) (y:=y) (n:=List.length l2) (by rw[tev_ok hx];simp[TV.er,Sig.sz]) (by rw[tev_ok hy];show some (G.osl h2 (S.sz t2) 0 (s.ln h2))=_;rw[ln_arr (stA_of ho2),←q4]) c4 hk rfl q5 (not_pinned c3) hk2 rfl rfl rfl q4.symm (by rw[q4];exact sz_pos S t2)
         (by show(List.flatMap (encT S t2) l2).length=_;rw[encs_lengthT,q4]) (fun hm'=>by
          have hm':m=true:=hm'
          rw[hm'] at hm
          exact(by simpa using hm:m2=true)) (sizP_ok hsz) (hokW _ c1) (hokW _ c2)) g1 g2 g3 q6
       ·cases h
      ·cases h
     ·cases h
    ·cases h
   ·cases h
  ·cases h
 ·cases h
mutual
theorem unKG_no {h:Nat}:∀g:G,g.hasH h=false→AM.unK h g=g
 | .kp x i off,e=>by
  show(bif Nat.beq x h then _ else _)=_
  rw[show Nat.beq x h=false from e];rfl
 | .ks x i sz n,e=>by
  show(bif Nat.beq x h then _ else _)=_
  rw[show Nat.beq x h=false from e];rfl
 | .agg gs,e=>congrArg G.agg (unKG_noL gs e)
 | .tup gs,e=>congrArg G.tup (unKG_noL gs e)
 | .clo f gs,e=>congrArg (G.clo f) (unKG_noL gs e)
 | .loc _ _,_=>rfl
 | .osl _ _ _ _,_=>rfl
 | .yld _,_=>rfl
 | .mref _,_=>rfl
 | .any,_=>rfl
 | .val _,_=>rfl
 | .ifc _,_=>rfl
 | .sl _ _,_=>rfl
 | .ptr _,_=>rfl
 | .fr _,_=>rfl
theorem unKG_noL {h:Nat}:∀gs:List G,G.hasH.go h gs=false→AM.unK.go h gs=gs
 | [],_=>rfl
 | x::r,e=>by
  simp only[G.hasH.go,Bool.or_eq_false_iff] at e
  simp only[AM.unK.go,unKG_no x e.1,unKG_noL r e.2]
end
theorem unK_killG (h:Nat) (g:G):AM.unK h (killG h g)=killG h g:=by
 unfold killG
 cases hb:g.hasH h with
 | true=>rfl
 | false=>exact unKG_no g hb
theorem unKFr_killFr (h:Nat):∀fr:List (Nat×G),unKFr h (killFr h fr)=killFr h fr
 | []=>rfl
 | (t,g)::r=>by simp only[killFr,unKFr,unK_killG,unKFr_killFr h r]
theorem unKB_killB (h:Nat) (k:Blk):unKB h (killB h k)=killB h k:=by
 unfold unKB killB
 cases hp:k.pure with
 | true=>simp only[cond_true,hp]
 | false=>
  simp only[cond_false,hp]
  congr 1
  generalize k.cells=cs
  induction cs with
  | nil=>rfl
  | cons x r ih=>simp only[List.map_cons,AM.unK.go,unK_killG,ih]
def famBslC (P:Program) (ok:Nat→Bool) (s:TSt S) (d:Nat) (t:TypeId) (n:Nat) (parts:Array (Nat×Operand)){A:Type}(k:TSt S→Option A):Option A:=
 match s.free (s.hnd d)&&(ok (s.hnd d)&&Nat.beq n 1) with
 | true=>match parts.toList with
  | [(0,x)]=>match tev s x with
   | some (.osl h2 t2)=>match ok h2 with
    | true=>match oget s.st h2 with
     | some (.arr e2 true f2 τ2 l2)=>match decEq t2 τ2 with
      | isTrue _=>match P.underlying t with
       | some (.slice e)=>match P.info? e with
        | some i=>match i.zero with
         | some _=>match decEq i.size 1 with
          | isTrue _=>match inner ((s.add (s.hnd d) (.arr e true true (.list τ2) [l2])).put d (.osl (s.hnd d) (.list τ2))) [s.hnd d,h2] with
           | true=>k (((s.add (s.hnd d) (.arr e true true (.list τ2) [l2])).put d (.osl (s.hnd d) (.list τ2))).hand (s.hnd d) [h2] (.deep e true f2 (.fam e2) (.list (.list τ2)) [l2]))
           | false=>none
          | isFalse _=>none
         | none=>none
        | none=>none
       | _=>none
      | isFalse _=>none
     | _=>none
    | false=>none
   | _=>none
  | _=>none
 | false=>none
theorem famBslC_ok {P:Program}{W:List Nat}{ok:Nat→Bool}(hokW:∀h,ok h=true→W.contains h=true){s:TSt S}{d:Nat}{t:TypeId}{n:Nat}{parts:Array (Nat×Operand)}{ty:TypeId}{pos:String}{after:Array Edge}{guard:Option (Nat×Bool)}{A:Type}{k:TSt S→Option A}{r:A}
  (hl:LInv s) (h:famBslC P ok s d t n parts k=some r):EfOk P W s ⟨some d,.buildSlice t n parts,ty,pos,after,guard⟩ k r:=by
 unfold famBslC at h
 split at h
 ·rename_i hc
  simp only[Bool.and_eq_true] at hc
  obtain⟨hf,c1,c2⟩:=hc
  have c2:=Nat.eq_of_beq_eq_true c2
  subst c2
  split at h
  ·rename_i x hp
   split at h
   ·rename_i h2 t2 hx
    split at h
    ·rename_i c3
     split at h
     ·rename_i e2 f2 τ2 l2 ho2
      split at h
      ·rename_i q1 _
       subst q1
       split at h
       ·rename_i e hu
        split at h
        ·rename_i i hi
         split at h
         ·rename_i z hz
          split at h
          ·rename_i hs _
           split at h
           ·rename_i hin
            generalize hhd:s.hnd d=hd at hf c1 h hin
            have hinfo:(P.info? e).map (fun i=>(i.zero,i.size,i.bytes))=some (some z,1,i.bytes):=by rw[hi,Option.map_some,hz,hs]
            obtain⟨f1,_,_,_,f5⟩:=free_spec hf
            have hne:h2≠hd:=fun e=>by subst e;rw[stA_of ho2] at f1;cases f1
            have hpn:pinned hd=false:=not_pinned (by simp only[Nat.blt_eq] at f5⊢;omega)
            obtain⟨a1,_⟩:=add_er hf (.arr e true true (.list t2) [l2]) rfl
            have hk2:=sget_st (stA_of ho2)
            have hln:s.ln h2=l2.length:=ln_arr (stA_of ho2)
            have hTfr:((s.add hd (.arr e true true (.list t2) [l2])).put d (.osl hd (.list t2)):TSt S).er.fr=(d,.osl hd 1 0 1)::s.er.fr:=by
             rw[put_er,a1,osl_er];rfl
            have hTst:((s.add hd (.arr e true true (.list t2) [l2])).put d (.osl hd (.list t2)):TSt S).er.st=(hd,(TO.arr e true true (.list t2) [l2]:TO S).er s.ln)::s.er.st:=by
             rw[put_er,a1];rfl
            have hTdf:((s.add hd (.arr e true true (.list t2) [l2])).put d (.osl hd (.list t2)):TSt S).er.df=s.er.df:=by
             rw[put_er,a1];rfl
            have hkd:sget (sdel ((hd,(⟨e,false,true,false,1,[.osl h2 (S.sz t2) 0 (List.length l2)],none⟩:Blk))::s.er.st) h2) hd=some ⟨e,false,true,false,1,[.osl h2 (S.sz t2) 0 (List.length l2)],none⟩:=sget_sdel_of (fun e=>hne e.symm) (sget_cons_same _ _ _)
            obtain⟨g1,g2,g3⟩:=hand_ok (s:=(s.add hd (.arr e true true (.list t2) [l2])).put d (.osl hd (.list t2))) (h:=hd) (rm:=[h2]) (o:=.arr e true true (.list t2) [l2]) (o':=.deep e true f2 (.fam e2) (.list (.list t2)) [l2])
             (s1:={fr:=unKFr hd ((d,.osl hd 1 0 1)::s.er.fr),st:=sset (unKSt hd (sdel ((hd,(⟨e,false,true,false,1,[.osl h2 (S.sz t2) 0 (List.length l2)],none⟩:Blk))::s.er.st) h2)) hd ⟨e,true,true,f2,1,[],some (.deep (famDp e e2 (S.sz t2) [(List.length l2,List.flatMap (encT S t2) l2)]))⟩,df:=AM.unK.go hd s.er.df})
             (by show oget ((hd,_)::s.st) hd=_;simp only[oget,Nat.beq_refl,cond_true]) rfl (fun _ _=>rfl) hin (by simpa using fun e=>hne e.symm) (by rw[hTfr]) (by rw[sget_sset_same (sget_unKSt_of hkd)];rfl) (fun x k0 hx1 hx2 h0=>by
              rw[hTst,sget_cons_other _ _ hx1] at h0
              show sget (sset _ _ _) _=_
              rw[sget_sset_other hx1]
              refine sget_unKSt_of (sget_sdel_of (by simpa using hx2) ?_)
              rw[sget_cons_other _ _ hx1];exact h0) (by rw[hTdf])
            refine .one _ (Effect.after (s1:={fr:=(d,.osl hd 1 0 1)::s.er.fr,st:=(hd,⟨e,false,true,false,1,[.osl h2 (S.sz t2) 0 (List.length l2)],none⟩)::s.er.st,df:=s.er.df})
             (EF.buildSlice (sz:=1) (z:=z) (bt:=i.bytes) hd (gs:=[.osl h2 (S.sz t2) 0 (List.length l2)]) (by rw[hp];simp only[evs,Nat.beq_refl,tev_ok hx];show some [G.osl h2 (S.sz t2) 0 (s.ln h2)]=_;rw[hln]) rfl hu hinfo Nat.one_pos (by omega) rfl (free_fresh hf))
             (fun N cx μ a w hr=>hr.gather (sget_cons_same _ _ _) rfl rfl rfl rfl hpn hne (show sget _ h2=_ by rw[sget_cons_other _ _ hne];exact hk2) rfl rfl rfl (sz_pos S t2) (encs_lengthT t2 l2) (fun _=>rfl) (hokW _ c1) (hokW _ c3))) g1 g2 ⟨g3.lo,g3.lst,g3.df⟩ h
           ·cases h
          ·cases h
         ·cases h
        ·cases h
       ·cases h
      ·cases h
     ·cases h
    ·cases h
   ·cases h
  ·cases h
 ·cases h
def famCatC {A:Type}:(τ:Ty)→S.D τ→S.D τ→(S.D τ→Option A)→Option A
 | .list (.list _),a,b,k=>k (List.append a b)
 | _,_,_,_=>none
theorem famCatC_ok {A:Type}{r0:A}:∀{τ:Ty}{a b:S.D τ}{k:S.D τ→Option A},famCatC τ a b k=some r0→
  ∃c,k c=some r0∧(famRows τ c).1=(famRows τ a).1∧(famRows τ b).1=(famRows τ a).1∧(famRows τ c).2=(famRows τ a).2++(famRows τ b).2∧tlen τ a=(famRows τ a).2.length∧tlen τ b=(famRows τ b).2.length∧tlen τ c=tlen τ a+tlen τ b∧∃t,τ=.list t
 | .list (.list t),a,b,k,h=>by
  refine⟨List.append a b,h,rfl,rfl,?_,?_,?_,?_,_,rfl⟩
  ·exact List.map_append
  ·show List.length a=(List.map _ a).length;rw[List.length_map]
  ·show List.length b=(List.map _ b).length;rw[List.length_map]
  ·exact List.length_append
 | .list (.int _),_,_,_,h=>by cases h
 | .list .bool,_,_,_,h=>by cases h
 | .list .ifc,_,_,_,h=>by cases h
 | .list .str,_,_,_,h=>by cases h
 | .list (.st _),_,_,_,h=>by cases h
 | .int _,_,_,_,h=>by cases h
 | .bool,_,_,_,h=>by cases h
 | .ifc,_,_,_,h=>by cases h
 | .str,_,_,_,h=>by cases h
 | .st _,_,_,_,h=>by cases h
def famAppC (P:Program) (ok:Nat→Bool) (s:TSt S) (d:Nat) (c:Call){A:Type}(k:TSt S→Option A):Option A:=
 match c.args.toList,c.argTypes.toList with
 | [x,y],[t,t']=>match decEq t t' with
  | isTrue _=>match tev s x with
   | some (.osl h τ)=>match tev s y with
    | some (.osl hb τb)=>match ok h&&(ok hb&&(Nat.blt h 1000&&(!(Nat.beq hb h)&&inner s [h,hb]))) with
     | true=>match oget s.st h with
      | some (.deep e m f (.fam kty) τ1 a)=>match oget s.st hb with
       | some (.deep _ mb fb (.fam ktyb) τ2 b)=>match decEq ktyb kty,decEq (Ty.list τ) τ1 with
        | isTrue _,isTrue _=>match P.underlying t with
         | some (.slice e')=>match decEq e e' with
          | isTrue _=>match P.info? e with
           | some i=>match i.zero with
            | some z=>match decEq i.size 1,decEq z.cells.size 1 with
             | isTrue _,isTrue _=>match (!m||mb)&&(Nat.beq (S.sz τ) 1&&Nat.beq (S.sz τb) 1) with
              | true=>match castT τ2 τ1 b with
               | some b=>(chk (0<tlen τ1 b∧tlen τ1 a+tlen τ1 b≤maxLen∧(tlen τ1 a+tlen τ1 b)*i.bytes≤140737488355328)).bind fun _=>famCatC τ1 a b fun ab=>
                match inner ((s.renew h (.deep e m (f&&fb) (.fam kty) τ1 ab)).put d (.osl h τ)) [h,hb] with
                | true=>k (((s.renew h (.deep e m (f&&fb) (.fam kty) τ1 ab)).put d (.osl h τ)).hand h [hb] (.deep e m (f&&fb) (.fam kty) τ1 ab))
                | false=>none
               | none=>none
              | false=>none
             | _,_=>none
            | none=>none
           | none=>none
          | isFalse _=>none
         | _=>none
        | _,_=>none
       | _=>none
      | _=>none
     | false=>none
    | _=>none
   | _=>none
  | isFalse _=>none
 | _,_=>none
theorem famAppC_ok {P:Program}{W:List Nat}{ok:Nat→Bool}(hokW:∀h,ok h=true→W.contains h=true){s:TSt S}{d:Nat}{args:Array Operand}{ts:Array TypeId}{ty:TypeId}{pos:String}{after:Array Edge}{guard:Option (Nat×Bool)}{A:Type}{k:TSt S→Option A}{r:A}
  (hl:LInv s) (hq:famAppC P ok s d ⟨.builtin .append,args,ts⟩ k=some r):EfOk P W s ⟨some d,.call ⟨.builtin .append,args,ts⟩,ty,pos,after,guard⟩ k r:=by
 unfold famAppC at hq
 dsimp only at hq
 split at hq
 ·rename_i hA hT
  have hA:=toList2 hA
  have hT:=toList2 hT
  subst hA;subst hT
  split at hq
  ·rename_i e0 _
   subst e0
   split at hq
   ·rename_i h τ hx
    split at hq
    ·rename_i hb τb hy
     split at hq
     ·rename_i hc
      simp only[Bool.and_eq_true,Bool.not_eq_true'] at hc
      obtain⟨c1,c2,c3,c4,c5⟩:=hc
      split at hq
      ·rename_i e m f kty τ1 a ho
       split at hq
       ·rename_i eb mb fb ktyb τ2 b0 hob
        split at hq
        ·rename_i w1 w2 _ _
         subst w1;subst w2
         split at hq
         ·rename_i e' hu
          split at hq
          ·rename_i w3 _
           subst w3
           split at hq
           ·rename_i i hi
            split at hq
            ·rename_i z hz
             split at hq
             ·rename_i hs hzs _ _
              split at hq
              ·rename_i hmm
               simp only[Bool.and_eq_true] at hmm
               obtain⟨hm,hsz,hszb⟩:=hmm
               have hszb:=Nat.eq_of_beq_eq_true hszb
               have hsz:=Nat.eq_of_beq_eq_true hsz
               split at hq
               ·rename_i b hcast
                have:=castT_some hcast
                cases this
                obtain⟨_,hck,hq⟩:=bind_some hq
                obtain⟨k0,k1,k2⟩:=chk_spec hck
                obtain⟨ab,hq,r1,r2,r3,r4,r5,r6,_⟩:=famCatC_ok hq
                split at hq
                ·rename_i hin
                 have hi0:=inner_spec c5
                 obtain⟨_,i2,i3,i4⟩:=hi0 h List.mem_cons_self
                 obtain⟨e1,hag,hlnh⟩:=renew_er (s:=s) (k:=h) (.deep e m (f&&fb) (.fam ktyb) (.list τ) ab) rfl i2 i3 i4
                 have hneq:hb≠h:=fun e=>by subst e;rw[Nat.beq_refl] at c4;cases c4
                 have hk:=sget_st (stA_of ho)
                 have hkb:=sget_st (stA_of hob)
                 have hTfr:((s.renew h (.deep e m (f&&fb) (.fam ktyb) (.list τ) ab)).put d (.osl h τ):TSt S).er.fr=(d,.osl h 1 0 (tlen (.list τ) a+tlen (.list τ) b))::killFr h s.er.fr:=by
                  rw[put_er,e1]
                  show(d,G.osl h (S.sz τ) 0 ((s.renew h _).ln h))::_=_
                  rw[hlnh,hsz]
                  show(d,G.osl h 1 0 (tlen _ ab))::_=_
                  rw[r6]
                 have hTst:((s.renew h (.deep e m (f&&fb) (.fam ktyb) (.list τ) ab)).put d (.osl h τ):TSt S).er.st=(h,(TO.deep e m (f&&fb) (.fam ktyb) (.list τ) ab:TO S).er s.ln)::killSt h s.er.st:=by
                  rw[put_er,e1];rfl
                 have hTdf:((s.renew h (.deep e m (f&&fb) (.fam ktyb) (.list τ) ab)).put d (.osl h τ):TSt S).er.df=s.er.df:=by
                  rw[put_er,e1];rfl
                 have hoE:(TO.deep e m (f&&fb) (.fam ktyb) (.list τ) ab:TO S).er s.ln=⟨e,true,m,f&&fb,1,[],some (.deep (famDp e ktyb (famRows (.list τ) a).1 ((famRows (.list τ) a).2++(famRows (.list τ) b).2)))⟩:=by
                  show Blk.mk _ _ _ _ _ _ (some (.deep (famDp e ktyb (famRows (.list τ) ab).1 (famRows (.list τ) ab).2)))=_
                  rw[r1,r3]
                 have hdfno:AM.unK.go h s.er.df=s.er.df:=by
                  show AM.unK.go h (TV.er.go s.ln s.df)=TV.er.go s.ln s.df
                  rw[←unK_erL,unK_idL _ i2]
                 obtain⟨g1,g2,g3⟩:=hand_ok (s:=(s.renew h (.deep e m (f&&fb) (.fam ktyb) (.list τ) ab)).put d (.osl h τ)) (h:=h) (rm:=[hb]) (o:=.deep e m (f&&fb) (.fam ktyb) (.list τ) ab) (o':=.deep e m (f&&fb) (.fam ktyb) (.list τ) ab)
                  (s1:={fr:=(d,.osl h 1 0 (tlen (.list τ) a+tlen (.list τ) b))::killFr h s.er.fr,st:=(h,⟨e,true,m,f&&fb,1,[],some (.deep (famDp e ktyb (famRows (.list τ) a).1 ((famRows (.list τ) a).2++(famRows (.list τ) b).2)))⟩)::killSt h (sdel s.er.st hb),df:=s.er.df})
                  (by show oget ((h,_)::_) h=_;simp only[oget,Nat.beq_refl,cond_true]) rfl (fun _ _=>rfl) hin (by simpa using fun e=>hneq e.symm) (by
                   rw[hTfr]
                   show _=(d,AM.unK h _)::unKFr h (killFr h s.er.fr)
                   rw[unKFr_killFr];rfl) (by rw[←hoE];exact sget_cons_same _ _ _) (fun x k0 hx1 hx2 h0=>by
                   rw[hTst,sget_cons_other _ _ hx1] at h0
                   obtain⟨k00,q1,q2⟩:=killSt_get h0
                   subst q2
                   show sget ((h,_)::_) x=_
                   rw[sget_cons_other _ _ hx1,unKB_killB]
                   exact sget_killSt_of (sget_sdel_of (by simpa using hx2) q1)) (by rw[hTdf,hdfno])
                 refine .one _ (EF.famApp (P:=P) (W:=W) (eb:=eb) (z:=z) (bt:=i.bytes) (n:=tlen (.list τ) a) (mm:=tlen (.list τ) b) (by rw[tev_ok hx];show some (G.osl h (S.sz τ) 0 (s.ln h))=_;rw[ln_deep (stA_of ho),hsz]) ?_ c4 hk rfl hkb ?_ r4 r5 k0 hu (by rw[hi,Option.map_some,hz,hs]) hzs k1 k2 (fun hm'=>by
                   have hm':m=true:=hm'
                   rw[hm'] at hm
                   exact(by simpa using hm:mb=true)) (not_pinned c3) (by show dfNo h (TV.er.go s.ln s.df)=true;rw[dfNo_er,i2];rfl) (hokW _ c1) (hokW _ c2)) g1 g2 ⟨g3.lo,g3.lst,g3.df⟩ hq
                 ·rw[tev_ok hy]
                  show some (G.osl hb (S.sz τb) 0 (s.ln hb))=_
                  rw[ln_deep (stA_of hob),hszb]
                 ·show some (Kd.deep (famDp eb ktyb (famRows (.list τ) b).1 (famRows (.list τ) b).2))=_
                  rw[r2]
                ·cases hq
               ·cases hq
              ·cases hq
             ·cases hq
            ·cases hq
           ·cases hq
          ·cases hq
         ·cases hq
        ·cases hq
       ·cases hq
      ·cases hq
     ·cases hq
    ·cases hq
   ·cases hq
  ·cases hq
 ·cases hq
end
end Go.DN
/-
 DN,part Ke:slices that are written no more,slices that are adopted,slices whose end is cut off.
-/
namespace Go.DN
open Go.AM
section
variable {S:Sig}
def TV.osls:TV S→List Nat
 | .osl h _=>[h]
 | .sub h _ _ _=>[h]
 | .agg l=>go l
 | .tup l=>go l
 | _=>[]
where go:List (TV S)→List Nat
 | []=>[]
 | x::r=>x.osls++go r
def fzAll:List Nat→TSt S→Option (TSt S)
 | [],s=>some s
 | h::r,s=>match oget s.stA h with
  | none=>fzAll r s
  | some _=>match freezeT s h with
   | some s'=>fzAll r s'
   | none=>none
theorem fzAll_ok:∀{l:List Nat}{s t:TSt S},LInv s→fzAll l s=some t→Gh s.er t.er∧LInv t∧Keep s t
 | [],s,t,hl,h=>by cases h;exact⟨Gh.refl _,hl,Keep.refl s⟩
 | x::r,s,t,hl,h=>by
  simp only[fzAll] at h
  split at h
  ·exact fzAll_ok hl h
  ·split at h
   ·rename_i s' hs
    obtain⟨a1,a2,a3⟩:=freezeT_ok hl hs
    obtain⟨b1,b2,b3⟩:=fzAll_ok a2 h
    exact⟨a1.trans b1,b2,a3.trans b3⟩
   ·cases h
def oslsO (s:TSt S):List Operand→List Nat
 | []=>[]
 | x::r=>(match tev s x with | some v=>v.osls | none=>[])++oslsO s r
theorem flatMap_take {α β:Type}{f:α→List β}{z:Nat}(hf:∀a,(f a).length=z):∀(l:List α) (n:Nat),List.flatMap f (l.take n)=(List.flatMap f l).take (n*z)
 | [],n=>by simp
 | x::r,0=>by simp
 | x::r,n+1=>by
  simp only[List.take_succ_cons,List.flatMap_cons]
  have e1:(n+1)*z-z=n*z:=by rw[Nat.succ_mul];omega
  have e2:(f x).length≤(n+1)*z:=by rw[hf x,Nat.succ_mul];omega
  rw[flatMap_take hf r n,List.take_append,hf x,e1,List.take_of_length_le (l:=f x) e2]
theorem Gh.adoptC {s:St}(hh j hd:Nat) (e:TypeId) (sz:Nat){k:Blk}(hk:sget s.st hh=some k) (hp:k.pure=false) (hj:k.cells[j]?=some (.val (.slice none 0 0))) (hf:fresh s hd=true) (hlp:k.lp=none):
  Gh s {fr:=s.fr,st:=sset ((hd,⟨e,true,true,true,sz,[],none⟩)::s.st) hh {k with cells:=k.cells.set j (.osl hd sz 0 0)},df:=s.df}:=fun N cx μ a w h=>by
 have h1:=h.newNil hd ⟨e,true,true,true,sz,[],none⟩ hf rfl rfl
 have hne:hh≠hd:=fun e=>by
  subst e
  obtain⟨h2,_⟩:=fresh_spec hf
  rw[hk] at h2;cases h2
 have hk2:sget ((hd,(⟨e,true,true,true,sz,[],none⟩:Blk))::s.st) hh=some k:=by rw[sget_cons_other _ _ hne];exact hk
 refine⟨_,h1.restate (s:={fr:=s.fr,st:=(hd,⟨e,true,true,true,sz,[],none⟩)::s.st,df:=s.df}) hk2 rfl rfl rfl (by simp) hlp hlp fun i g' hg'=>?_,Gh.same fun x k1 b m hx hm=>?_⟩
 ·simp only[List.getElem?_set] at hg'
  by_cases e:j=i
  ·subst e
   rw[if_pos rfl] at hg'
   split at hg'
   ·cases hg'
    refine⟨_,hj,fun v hv=>?_⟩
    unfold RepC at hv⊢
    simp only[hp] at hv⊢
    cases hv with
    | imm hv=>cases hv;exact .onil hd sz (upd_same _ _ _)
   ·cases hg'
  ·rw[if_neg e] at hg'
   refine⟨g',hg',fun v hv=>?_⟩
   unfold RepC at hv⊢
   exact hv
 ·by_cases e1:x=hd
  ·subst e1;rw[upd_same] at hm;cases hm
  ·rw[upd_other e1] at hm
   rcases sget_sset_iff hk2 hx with ⟨e2,_⟩ | ⟨e2,h3⟩
   ·subst e2;exact⟨k,hk,hm⟩
   ·rw[sget_cons_other _ _ e1] at h3;exact⟨k1,h3,hm⟩
theorem adoptC_ok {s:TSt S}{h j hd:Nat}{e e':TypeId}{m:Bool}{cs:List (TV S)}{τ:Ty}(hl:LInv s) (ho:oget s.st h=some (.box e' m cs)) (hj:cs[j]?=some (.val (.slice none 0 0))) (hf:s.free hd=true):
  Gh s.er ((s.add hd (.arr e true true τ [])).set h (.box e' m (cs.set j (.osl hd τ)))).er∧LInv ((s.add hd (.arr e true true τ [])).set h (.box e' m (cs.set j (.osl hd τ)))):=by
 obtain⟨e1,hag⟩:=add_er hf (.arr e true true τ ([]:List (S.D τ))) rfl
 obtain⟨f1,f2,f3,f4,f5⟩:=free_spec hf
 have hne:h≠hd:=fun e=>by subst e;rw[stA_of ho] at f1;cases f1
 have hne':Nat.beq hd h=false:=by
  cases hb:Nat.beq hd h with
  | false=>rfl
  | true=>exact absurd (Nat.eq_of_beq_eq_true hb).symm hne
 have ho2:oget (s.add hd (.arr e true true τ [])).st h=some (.box e' m cs):=by
  show oget ((hd,_)::s.st) h=_
  simp only[oget,hne',cond_false];exact ho
 obtain⟨g1,_⟩:=set_er (o':=.box e' m (cs.set j (.osl hd τ))) ho2 rfl
 refine⟨?_,(hl.add (.arr e true true τ []) hf).set ho2 _⟩
 rw[g1,e1]
 have hcs:TV.has.go hd cs=false:=by
  have:=stHas_get (stA_of ho) f3
  exact this
 have e3:(TO.box e' m (cs.set j (.osl hd τ)):TO S).er (s.add hd (.arr e true true τ [])).ln={(TO.box e' m cs:TO S).er s.ln with cells:=((TO.box e' m cs:TO S).er s.ln).cells.set j (.osl hd (S.sz τ) 0 0)}:=by
  have e4:TV.er.go (s.add hd (.arr e true true τ [])).ln (cs.set j (.osl hd τ))=(TV.er.go s.ln cs).set j (.osl hd (S.sz τ) 0 0):=by
   rw[er_go,List.map_set,←er_go,←go_agree hag cs hcs]
   congr 1
   show G.osl _ _ _ ((s.add hd _).ln hd)=_
   rw[show(s.add hd (.arr e true true τ [])).ln hd=_ from lnO_same _ _];rfl
  show Blk.mk _ _ _ _ _ _ _=Blk.mk _ _ _ _ _ _ _
  rw[e4];rfl
 rw[e3]
 exact Gh.adoptC (s:=s.er) h j hd e (S.sz τ) (sget_erS (stA_of ho)) rfl (by show(TV.er.go s.ln cs)[j]?=_;rw[er_go,List.getElem?_map,hj];rfl) (free_fresh hf) rfl
def delO (h:Nat):List (Nat×TO S)→List (Nat×TO S)
 | []=>[]
 | (k,o)::r=>bif Nat.beq k h then delO h r else(k,o)::delO h r
theorem delO_other {h x:Nat}(hx:x≠h):∀{st:List (Nat×TO S)},oget (delO h st) x=oget st x
 | []=>rfl
 | (k,o)::r=>by
  simp only[delO,oget]
  cases hb:Nat.beq k h with
  | true=>
   have:=Nat.eq_of_beq_eq_true hb
   subst this
   have h2:Nat.beq k x=false:=by
    cases h3:Nat.beq k x with
    | false=>rfl
    | true=>exact absurd (Nat.eq_of_beq_eq_true h3).symm hx
   rw[h2]
   exact delO_other hx
  | false=>
   simp only[cond_false,oget]
   cases Nat.beq k x with
   | true=>rfl
   | false=>exact delO_other hx
def TSt.dropH (s:TSt S) (h:Nat):TSt S:={s with st:=delO h s.st,last:=rmH h s.last}
theorem dropH_ok {s:TSt S}{h:Nat}(hl:LInv s) (hf:(s.dropH h).free h=true):Gh s.er (s.dropH h).er∧LInv (s.dropH h)∧Keep s (s.dropH h):=by
 obtain⟨f1,f2,f3,f4,_⟩:=free_spec hf
 have hst:∀x,x≠h→oget (s.dropH h).stA x=oget s.stA x:=by
  intro x hx
  show oget (delO h s.st++s.lst) x=oget (s.st++s.lst) x
  rw[oget_appA,oget_appA,delO_other hx]
 have hag:AgreeLn s.ln (s.dropH h).ln h:=by
  intro x hx
  show lnO s.stA x=lnO (s.dropH h).stA x
  unfold lnO
  rw[hst x hx]
 have hone:∀o:TO S,o.has h=false→BCV s.er.st (s.dropH h).er.st (o.er s.ln) (o.er (s.dropH h).ln):=by
  intro o ho
  rw[TO.er_agree hag o ho]
  exact BCV.refl _ _ _
 refine⟨Gh.typed (fun d v' hv'=>⟨v',hv',?_⟩) (fun x o' ho'=>?_) (go_agree hag s.df f4),?_,⟨rfl,rfl,rfl⟩⟩
 ·rw[er_agree hag v' (frHas_get hv' f2)]
  exact CV.refl _ _ _
 ·have hx:x≠h:=fun e=>by subst e;rw[f1] at ho';cases ho'
  exact⟨o',by rw[←hst x hx];exact ho',hone o' (stHas_get ho' f3)⟩
 ·intro d hh x hm
  obtain⟨h1,h2⟩:=rmH_mem hm
  obtain⟨i,ety,m,f',τ',l',a,e1,e2,e3⟩:=hl d hh x h1
  exact⟨i,ety,m,f',τ',l',a,e1,(hst hh h2).trans e2,e3⟩
def freeO (s:TSt S) (h:Nat):TSt S:=match s.free h with
 | true=>s
 | false=>match (s.dropH h).free h with
  | true=>s.dropH h
  | false=>s
theorem freeO_ok {s:TSt S}(h:Nat) (hl:LInv s):Gh s.er (freeO s h).er∧LInv (freeO s h)∧Keep s (freeO s h):=by
 unfold freeO
 split
 ·exact⟨Gh.refl _,hl,Keep.refl s⟩
 ·split
  ·rename_i hf
   exact dropH_ok hl hf
  ·exact⟨Gh.refl _,hl,Keep.refl s⟩
theorem Rel.shrink {N:Nat}{cx:Cx}{s:St}{μ:Mu}{a:Act}{w:World}(hr:Rel N cx μ s a w){h d n c:Nat}{k:Blk}(hk:sget s.st h=some k) (hp:k.pure=true) (hlp:k.lp=none) (hd:get s.fr d=some (.osl h k.sz 0 n)):
  Rel N cx μ {fr:=(d,.osl h k.sz 0 n)::killFr h s.fr,st:=(h,{k with cells:=k.cells.take c})::killSt h s.st,df:=s.df} a w:=by
 have key:∀x k1,sget ((h,{k with cells:=k.cells.take c})::killSt h s.st) x=some k1→∃k0,sget s.st x=some k0:=by
  intro x k1 h1
  by_cases e:x=h
  ·subst e;exact⟨k,hk⟩
  ·rw[sget_cons_other _ _ e] at h1
   obtain⟨k0,h2,_⟩:=sget_killSt h1
   exact⟨k0,h2⟩
 have hO:∀b,¬cx.O s.st μ b→¬cx.O ((h,{k with cells:=k.cells.take c})::killSt h s.st) μ b:=by
  rintro b hn (ho | ⟨x,k1,c1,m,h1,h2,hi⟩)
  ·exact hn (.inl ho)
  ·obtain⟨k0,h3⟩:=key x k1 h1
   exact hn (.inr ⟨x,k0,c1,m,h3,h2,hi⟩)
 refine {st:={blk:=?_,injF:=?_,outF:=?_,pin:=?_,xlt:=hr.st.xlt,hb:=hr.st.hb,os:=hr.st.os,tape:=hr.st.tape,output:=hr.st.output,gl:=hr.st.gl,keep:=hr.st.keep},nd:=hr.nd.mono (Kept.refl _ _) (fun b _=>hO b),sz:=hr.sz,fr:=?_}
 ·intro x k1 h1
  by_cases e:x=h
  ·subst e
   rw[sget_cons_same] at h1
   cases h1
   have h3:=hr.st.blk x k hk
   cases hm:μ x with
   | none=>rw[hm] at h3;exact .nil (by simp[h3.1]) hlp
   | some bm=>
    obtain⟨b,m⟩:=bm
    rw[hm] at h3
    obtain⟨cs,q1,q2,q3,q4,q5,q6⟩:=h3.cells hlp
    refine .mk hlp (h3.nokid hlp) ⟨cs,q1,q2,by simp only[List.length_take];omega,q4,q5,fun j g hg=>?_⟩
    have hg':k.cells[j]?=some g:=by
     have hg:(k.cells.take c)[j]?=some g:=hg
     rw[List.getElem?_take] at hg
     split at hg
     ·exact hg
     ·cases hg
    obtain⟨v,hv,hrv⟩:=q6 j g hg'
    refine⟨v,hv,?_⟩
    have:=hrv.mono (O':=cx.O ((x,{k with cells:=k.cells.take c})::killSt x s.st) μ) (Kept.refl _ _) (fun b _=>hO b)
    unfold RepC at this⊢
    exact this
  ·rw[sget_cons_other _ _ e] at h1
   obtain⟨k0,h2,rfl⟩:=sget_killSt h1
   exact((hr.st.blk x k0 h2).mono (fun _ _ _ _ _=>rfl) (Kept.refl _ _) (fun b _=>hO b)).kill h fun _ _=>rfl
 ·intro x x' k1 k2 y b m b2 m2 h1 h2
  obtain⟨k0,h5⟩:=key x k1 h1
  obtain⟨k0',h5'⟩:=key x' k2 h2
  exact hr.st.injF x x' k0 k0' y b m b2 m2 h5 h5'
 ·intro x k1 b m y h1 h2 hi
  by_cases e:x=h
  ·subst e
   rw[sget_cons_same] at h1
   cases h1
   exact hr.st.outF x k b m y hk h2 hi
  ·rw[sget_cons_other _ _ e] at h1
   obtain⟨k0,h5,rfl⟩:=sget_killSt h1
   obtain⟨a1,a2,a3,a4⟩:=hr.st.outF x k0 b m y h5 h2 hi
   exact⟨a1,a2,a3,fun hm=>a4 (by cases hp:k0.pure <;> simp only[hp] at hm <;> exact hm)⟩
 ·intro x k1 h1 h2
  obtain⟨k0,h5⟩:=key x k1 h1
  exact hr.st.pin x k0 h5 h2
 ·intro t g hg
  rw[get_cons] at hg
  cases hb:Nat.beq d t with
  | true=>
   rw[hb] at hg
   cases hg
   have:=Nat.eq_of_beq_eq_true hb
   subst this
   obtain⟨v,hv,hrv⟩:=hr.fr d _ hd
   exact⟨v,hv,hrv.mono (Kept.refl _ _) (fun b _=>hO b) (Nat.le_refl _)⟩
  | false=>
   rw[hb] at hg
   obtain⟨g0,h1,rfl⟩:=get_killFr hg
   obtain⟨v,hv,hrv⟩:=hr.fr t g0 h1
   exact⟨v,hv,killG_spec (hrv.mono (Kept.refl _ _) (fun b _=>hO b) (Nat.le_refl _)) fun k hk=>rfl⟩
def truncC (s:TSt S) (x:Operand){A:Type}(k:TSt S→Option A):Option A:=
 match x with
 | .tmp t=>match tget s.frA t with
  | some (.sub h τ 0 n)=>match oget s.st h with
   | some (.arr e m f τ' l)=>match decEq τ' τ with
    | isTrue _=>match !(frHas h s.lo)&&(!(stHas h s.lst)&&!(TV.has.go h s.df)) with
     | true=>(chk (n≤l.length)).bind fun _=>k ((s.renew h (.arr e m f τ' (l.take n))).put t (.osl h τ'))
     | false=>none
    | isFalse _=>none
   | _=>none
  | _=>k s
 | _=>k s
theorem truncC_ok {s:TSt S}{x:Operand}{A:Type}{k:TSt S→Option A}{r:A}(hl:LInv s) (h:truncC s x k=some r):∃t,Gh s.er t.er∧LInv t∧Keep s t∧k t=some r:=by
 unfold truncC at h
 split at h
 ·rename_i t
  split at h
  ·rename_i hh τ n hx
   split at h
   ·rename_i e m f τ' l ho
    split at h
    ·rename_i e1 _
     subst e1
     split at h
     ·rename_i hc
      simp only[Bool.and_eq_true,Bool.not_eq_true'] at hc
      obtain⟨hlo,hls,hdf⟩:=hc
      obtain⟨_,hck,hk⟩:=bind_some h
      have hn:n≤l.length:=chk_spec hck
      refine⟨_,?_,(hl.renew hh (.arr e m f τ' (l.take n)) hlo hls).put t (.osl hh τ'),⟨rfl,rfl,rfl⟩,hk⟩
      obtain⟨e1,_,e3⟩:=renew_er (.arr e m f τ' (l.take n)) rfl hdf hlo hls
      rw[put_er,e1]
      have e4:(TV.osl hh τ':TV S).er (s.renew hh (.arr e m f τ' (l.take n))).ln=.osl hh (S.sz τ') 0 n:=by
       show G.osl _ _ _ ((s.renew hh _).ln hh)=_
       rw[e3]
       show G.osl _ _ _ (l.take n).length=_
       rw[List.length_take,Nat.min_eq_left hn]
      rw[e4]
      have e5:(TO.arr e m f τ' (l.take n):TO S).er s.ln={(TO.arr e m f τ' l:TO S).er s.ln with cells:=((TO.arr e m f τ' l:TO S).er s.ln).cells.take (n*S.sz τ')}:=by
       show Blk.mk _ _ _ _ _ _ _=Blk.mk _ _ _ _ _ _ _
       have:List.flatMap (encT S τ') (l.take n)=(List.flatMap (encT S τ') l).take (n*S.sz τ'):=flatMap_take (fun a=>encT_len S τ' a) l n
       rw[this];rfl
      rw[e5]
      have e6:AM.get (erF s.ln s.frA) t=some (G.osl hh (S.sz τ') 0 n):=by
       rw[get_erF hx]
       show some (G.osl _ _ (0*S.sz τ') _)=_
       rw[Nat.zero_mul]
      intro N cx μ a w hr
      exact⟨μ,Rel.shrink hr (sget_erS (stA_of ho)) rfl rfl e6,Gh.same fun x k1 b m' h1 h2=>by
       by_cases e:x=hh
       ·subst e;exact⟨_,sget_erS (stA_of ho),h2⟩
       ·have h1:sget ((hh,_)::killSt hh s.er.st) x=some k1:=h1
        rw[sget_cons_other _ _ e] at h1
        obtain⟨k0,h3,_⟩:=sget_killSt h1
        exact⟨k0,h3,h2⟩⟩
     ·cases h
    ·cases h
   ·cases h
  ·exact⟨s,Gh.refl _,hl,Keep.refl s,h⟩
 ·exact⟨s,Gh.refl _,hl,Keep.refl s,h⟩
end
end Go.DN
/-
 DN,part Kc:copy.
-/
namespace Go.DN
open Go.AM
def cpy {α:Type}(l m:List α) (o n:Nat):List α:=l.take o++m.take (Nat.min m.length n)++l.drop (o+Nat.min m.length n)
theorem cpy_length {α:Type}{l m:List α}{o n:Nat}(h:o+n≤l.length):(cpy l m o n).length=l.length:=by
 have h1:Nat.min m.length n≤m.length:=Nat.min_le_left _ _
 have h2:Nat.min m.length n≤n:=Nat.min_le_right _ _
 simp only[cpy,List.length_append,List.length_take,List.length_drop]
 omega
theorem cpy_none {α:Type}{l m:List α}{o n:Nat}(h:Nat.min m.length n=0):cpy l m o n=l:=by
 unfold cpy
 rw[h,List.take_zero,List.append_nil,Nat.add_zero,List.take_append_drop]
section
variable {S:Sig}
def copyO (ok:Nat→Bool) (s:TSt S) (d h:Nat) (τ:Ty) (o n:Nat) (vy:TV S){A:Type}(k:TSt S→Option A):Option A:=
 match ok h with
 | true=>match oget s.st h with
  | some (.arr e m f τ' l)=>match decEq τ' τ with
   | isTrue _=>match decEq (S.sz τ') 1 with
    | isTrue _=>match srcT s h τ' vy with
     | some (fy,ml)=>srcC s vy ((chk (o+n≤List.length l)).bind fun _=>
       k ((s.set h (.arr e m (f&&(fy||τ'.scal)) τ' (cpy l ml o n))).put d (.dat true (.int .i64) (Nat.min (List.length ml) n:Nat))))
     | none=>none
    | isFalse _=>none
   | isFalse _=>none
  | _=>none
 | false=>none
def copyC (P:Program) (ok:Nat→Bool) (s:TSt S) (d:Nat) (c:Call){A:Type}(k:TSt S→Option A):Option A:=
 match c.args.toList,c.argTypes.toList with
 | [x,y],[t,t']=>match P.underlying t with
  | some (.slice e)=>match decEq ((P.info? e).map (·.size)) (some 1) with
   | isTrue _=>match tev s y with
    | some vy=>match tev s x with
     | some (.osl h τ)=>match oget s.stA h with
      | some (.arr _ _ _ _ l)=>copyO ok s d h τ 0 (List.length l) vy k
      | _=>none
     | some (.sub h τ o n)=>copyO ok s d h τ o n vy k
     | _=>none
    | none=>none
   | isFalse _=>none
  | _=>none
 | _,_=>none
section
variable {P:Program}{W:List Nat}{s:TSt S}{ty:TypeId}{pos:String}{after:Array Edge}{guard:Option (Nat×Bool)}{A:Type}{k:TSt S→Option A}{r:A}
theorem sset_self {st:List (Nat×Blk)}{h:Nat}{b:Blk}(hb:sget st h=some b):sset st h b=st:=by
 induction st with
 | nil=>cases hb
 | cons x r ih=>
  obtain⟨y,g⟩:=x
  simp only[sget] at hb
  simp only[sset]
  cases hy:Nat.beq y h with
  | true=>rw[hy] at hb;cases hb;rfl
  | false=>rw[hy] at hb;rw[cond_false,ih hb]
theorem sset_sset {st:List (Nat×Blk)}{h:Nat}{a b:Blk}:sset (sset st h a) h b=sset st h b:=by
 induction st with
 | nil=>rfl
 | cons x r ih=>
  obtain⟨y,g⟩:=x
  simp only[sset]
  cases hy:Nat.beq y h with
  | true=>simp only[cond_true,sset,hy]
  | false=>simp only[cond_false,sset,hy,ih]
theorem copyO_ok {ok:Nat→Bool}(hokW:∀h,ok h=true→W.contains h=true){d h o n:Nat}{τ:Ty}{t t' e0:TypeId}{x y:Operand}{vy:TV S}(hl:LInv s) (hx:ev s.er x=some (.osl h (S.sz τ) (o*S.sz τ) n)) (hy:tev s y=some vy)
  (ht:P.underlying t=some (.slice e0)) (hi:(P.info? e0).map (·.size)=some 1) (hk:copyO ok s d h τ o n vy k=some r):
  EfOk P W s ⟨some d,.call ⟨.builtin .copy,#[x,y],#[t,t']⟩,ty,pos,after,guard⟩ k r:=by
 unfold copyO at hk
 split at hk
 ·rename_i hW
  split at hk
  ·rename_i e m f τ' l ho
   split at hk
   ·rename_i e1 _
    subst e1
    split at hk
    ·rename_i hsz _
     split at hk
     ·rename_i fy ml hsr
      obtain⟨g1,g2,hk⟩:=srcT_ok hsr hk
      obtain⟨u,hck,hk⟩:=bind_some hk
      have c1:=chk_spec hck
      have ho':=sget_st (stA_of ho)
      have hx':ev s.er x=some (.osl h 1 o n):=by rw[hx,hsz,Nat.mul_one]
      have hlen:(List.flatMap (encT S τ') l).length=l.length:=by rw[encs_lengthT,hsz,Nat.mul_one]
      have hlenm:(List.flatMap (encT S τ') ml).length=ml.length:=by rw[encs_lengthT,hsz,Nat.mul_one]
      have tk:∀(l:List (S.D τ')) (i:Nat),(List.flatMap (encT S τ') l).take i=List.flatMap (encT S τ') (l.take i):=fun l i=>by
       have:=encs_takeT τ' l i;rwa[hsz,Nat.mul_one] at this
      have dp:∀(l:List (S.D τ')) (i:Nat),(List.flatMap (encT S τ') l).drop i=List.flatMap (encT S τ') (l.drop i):=fun l i=>by
       have:=encs_dropT τ' l i;rwa[hsz,Nat.mul_one] at this
      have hc:(List.flatMap (encT S τ') l).take o++(List.flatMap (encT S τ') ml).take (Nat.min ml.length n)++(List.flatMap (encT S τ') l).drop (o+Nat.min ml.length n)=List.flatMap (encT S τ') (cpy l ml o n):=by
       rw[tk,tk,dp,←encs_appendT,←encs_appendT];rfl
      have hln:(TO.arr e m (f&&(fy||τ'.scal)) τ' (cpy l ml o n):TO S).len=(TO.arr e m f τ' l:TO S).len:=cpy_length c1
      obtain⟨e2,e3⟩:=set_er (o':=.arr e m (f&&(fy||τ'.scal)) τ' (cpy l ml o n)) ho hln
      refine⟨_,EF.copy (f:=fy) hx' (tev_ok hy) ho' rfl (by show o+n≤(List.flatMap (encT S τ') l).length;rw[hlen];exact c1) (by rw[←hsz];exact g1) (by rw[hlenm,Nat.mul_one]) (fun g hg=>by
       obtain⟨a,ha,hg⟩:=List.mem_flatMap.1 hg
       exact encT_ones S τ' a g hg) ht hi (hokW h hW) rfl,fun s' hs'=>⟨_,?_,(hl.set ho _).put _ _,⟨rfl,rfl,rfl⟩,hk⟩⟩
      rcases hs' with hs' | ⟨h0,hs'⟩
      ·subst hs'
       rw[put_er,e2]
       show Gh ⟨(d,.val (.int .i64 ((Nat.min ml.length n:Nat):Int)))::s.er.fr,sset s.er.st h ⟨e,true,m,f&&fy,S.sz τ',(List.flatMap (encT S τ') l).take o++(List.flatMap (encT S τ') ml).take (Nat.min ml.length n)++(List.flatMap (encT S τ') l).drop (o+Nat.min ml.length n),none⟩,s.er.df⟩ ⟨(d,.val (.int .i64 ((Nat.min ml.length n:Nat):Int)))::s.er.fr,sset s.er.st h ⟨e,true,m,f&&(fy||τ'.scal),S.sz τ',List.flatMap (encT S τ') (cpy l ml o n),none⟩,s.er.df⟩
       rw[hc]
       cases hs:τ'.scal with
       | false=>rw[Bool.or_false];exact Gh.refl _
       | true=>
        cases f with
        | false=>exact Gh.refl _
        | true=>
         rw[Bool.or_true,Bool.true_and,Bool.true_and]
         have hk1:sget (sset s.er.st h (⟨e,true,m,fy,S.sz τ',List.flatMap (encT S τ') (cpy l ml o n),none⟩:Blk)) h=some ⟨e,true,m,fy,S.sz τ',List.flatMap (encT S τ') (cpy l ml o n),none⟩:=sget_sset_same ho'
         have:=Gh.scal (S:=S) (s:=⟨(d,.val (.int .i64 ((Nat.min ml.length n:Nat):Int)))::s.er.fr,sset s.er.st h (⟨e,true,m,fy,S.sz τ',List.flatMap (encT S τ') (cpy l ml o n),none⟩:Blk),s.er.df⟩) hs hk1 rfl rfl rfl
         rw[sset_sset] at this
         exact this
      ·subst hs'
       rw[put_er,e2]
       have hval:(TV.dat true (.int .i64) ((Nat.min ml.length n:Nat):Int):TV S).er (s.set h (.arr e m (f&&(fy||τ'.scal)) τ' (cpy l ml o n))).ln=.val (.int .i64 0):=by rw[h0];rfl
       rw[hval]
       refine Gh.gen (s:=s.er.put d (.val (.int .i64 0))) (fun x g' hg=>⟨g',hg,CV.refl _ _ _⟩) (fun x k' hk'=>?_) rfl
       rcases sget_sset_iff ho' hk' with ⟨rfl,rfl⟩ | ⟨_,hk'⟩
       ·refine⟨_,ho',rfl,id,rfl,rfl,rfl,?_,.inl ⟨rfl,?_,fun hf=>by simp[TO.er] at hf;exact .inl hf.1⟩⟩
        ·show(List.flatMap (encT S τ') (cpy l ml o n)).length=(List.flatMap (encT S τ') l).length
         rw[cpy_none h0]
        ·show List.flatMap (encT S τ') (cpy l ml o n)=List.flatMap (encT S τ') l
         rw[cpy_none h0]
       ·exact⟨k',hk',BCV.refl _ _ _⟩
     ·cases hk
    ·cases hk
   ·cases hk
  ·cases hk
 ·cases hk
theorem copyC_ok {ok:Nat→Bool}(hokW:∀h,ok h=true→W.contains h=true){d:Nat}{args:Array Operand}{ts:Array TypeId}(hl:LInv s) (h:copyC P ok s d ⟨.builtin .copy,args,ts⟩ k=some r):
  EfOk P W s ⟨some d,.call ⟨.builtin .copy,args,ts⟩,ty,pos,after,guard⟩ k r:=by
 unfold copyC at h
 dsimp only at h
 split at h
 ·rename_i h1 h2
  have h1:=toList2 h1
  have h2:=toList2 h2
  subst h1;subst h2
  split at h
  ·rename_i hu
   split at h
   ·rename_i hi _
    split at h
    ·rename_i hy
     split at h
     ·rename_i hh τ hx
      split at h
      ·rename_i ho
       refine copyO_ok hokW hl ?_ hy hu hi h
       rw[tev_ok hx,Nat.zero_mul]
       show some (G.osl _ _ _ (s.ln hh))=_
       rw[ln_arr ho]
      ·cases h
     ·rename_i hx
      exact copyO_ok hokW hl (tev_ok hx) hy hu hi h
     ·cases h
    ·cases h
   ·cases h
  ·cases h
 ·cases h
end
end
end Go.DN
/-
 DN,part Kf:append within an object,clear.
-/
namespace Go.AM
theorem zeros_enc {α:Type}[Enc α]{x:α}{z:Array Value}(hzs:z.size=Enc.sz α) (he:z.toList.map viewV=Enc.cells x) (n:Nat):(Builtin.zeroCells z n).toList.map viewV=encs (List.replicate n x):=by
 have hpos:0<Enc.sz α:=Enc.pos
 apply List.ext_getElem?
 intro j
 unfold encs
 rw[flatMap_get Enc.cells (Enc.sz α) hpos (List.replicate n x) (fun a _=>Enc.len a) j,List.getElem?_replicate]
 by_cases hj:j/Enc.sz α<n
 ·rw[if_pos hj,Option.bind_some,←he]
  have hjn:j<n*Enc.sz α:=(Nat.div_lt_iff_lt_mul hpos).1 hj
  have hlt:j%Enc.sz α<z.size:=by rw[hzs];exact Nat.mod_lt _ hpos
  have e1:z[j%Enc.sz α]! =z[j%Enc.sz α]:=by simp[hlt]
  have e2:z[j%Enc.sz α]?=some z[j%Enc.sz α]:=Array.getElem?_eq_getElem hlt
  simp only[Builtin.zeroCells,hzs,Array.toList_map,Array.toList_range,List.getElem?_map,List.getElem?_range hjn,Option.map_some,Array.getElem?_toList,e1,e2]
 ·rw[if_neg hj,Option.bind_none]
  have hjn:¬j<n*Enc.sz α:=fun h=>hj ((Nat.div_lt_iff_lt_mul hpos).2 h)
  simp[Builtin.zeroCells,hzs,hjn]
end Go.AM
namespace Go.DN
open Go.AM
section
variable {S:Sig}
def isApIn (s:TSt S):List Operand→Bool
 | [x,y]=>match tev s x with
  | some (.sub h _ _ _)=>match tev s y with
   | some (.sub h2 _ _ _)=>Nat.beq h2 h
   | _=>false
  | _=>false
 | _=>false
def appInC (P:Program) (ok:Nat→Bool) (s:TSt S) (d:Nat) (c:Call){A:Type}(k:TSt S→Option A):Option A:=
 match c.args.toList,c.argTypes.toList with
 | [x,y],[t,t']=>match decEq t t' with
  | isFalse _=>none
  | isTrue _=>match P.underlying t with
   | some (.slice e0)=>match tev s x with
    | some (.sub h τ o0 n)=>match tev s y with
     | some (.sub h2 τ2 o m)=>match decEq h2 h with
      | isFalse _=>none
      | isTrue _=>match ok h with
       | false=>none
       | true=>match oget s.st h with
        | some (.arr e mi f τ' l)=>match decEq τ' τ,decEq e e0,decEq τ' τ2 with
         | isTrue _,isTrue _,isTrue _=>match decEq ((P.info? e0).map (·.size)) (some (S.sz τ')) with
          | isTrue _=>(chk (o0=0∧n+m≤List.length l∧o+m≤List.length l)).bind fun _=>
           k ((s.set h (.arr e mi f τ' (cpy l ((List.drop o l).take m) n m))).put d (.sub h τ 0 (n+m)))
          | isFalse _=>none
         | _,_,_=>none
        | _=>none
     | _=>none
    | _=>none
   | _=>none
 | _,_=>none
def clearC (P:Program) (ok:Nat→Bool) (s:TSt S) (c:Call){A:Type}(k:TSt S→Option A):Option A:=
 match c.args.toList,c.argTypes.toList with
 | [x],[t]=>match P.underlying t with
  | some (.slice e0)=>match tev s x with
   | some (.sub h τ o n)=>match ok h with
    | false=>none
    | true=>match oget s.st h with
     | some (.arr e mi f τ' l)=>match decEq τ' τ with
      | isTrue _=>match P.info? e0 with
       | some i=>match i.zero with
        | some z=>match zeroT τ' z with
         | some a=>(chk (o+n≤List.length l)).bind fun _=>k (s.set h (.arr e mi f τ' (cpy l (List.replicate n a) o n)))
         | none=>none
        | none=>none
       | none=>none
      | isFalse _=>none
     | _=>none
   | _=>none
  | _=>none
 | _,_=>none
section
variable {P:Program}{W:List Nat}{s:TSt S}{ty:TypeId}{pos:String}{after:Array Edge}{guard:Option (Nat×Bool)}{A:Type}{k:TSt S→Option A}{r:A}
theorem appInC_ok {ok:Nat→Bool}(hokW:∀h,ok h=true→W.contains h=true){d:Nat}{args:Array Operand}{ts:Array TypeId}(hl:LInv s) (h:appInC P ok s d ⟨.builtin .append,args,ts⟩ k=some r):
  EfOk P W s ⟨some d,.call ⟨.builtin .append,args,ts⟩,ty,pos,after,guard⟩ k r:=by
 unfold appInC at h
 dsimp only at h
 split at h
 ·rename_i x y t t' h1 h2
  have h1:=toList2 h1
  have h2:=toList2 h2
  subst h1;subst h2
  split at h
  ·cases h
  ·rename_i e1 _
   subst e1
   split at h
   ·rename_i e0 hu
    split at h
    ·rename_i hh τ o0 n hx
     split at h
     ·rename_i h2 τ2 o m hy
      split at h
      ·cases h
      ·rename_i e1 _
       subst e1
       split at h
       ·cases h
       ·rename_i hW
        split at h
        ·rename_i e mi f τ' l ho
         split at h
         ·rename_i e1 e2 e3 _ _ _
          subst e1;subst e2;subst e3
          split at h
          ·rename_i hi _
           obtain⟨u,hck,hkk⟩:=bind_some h
           obtain⟨c0,c1,c2⟩:=chk_spec hck
           subst c0
           have ho':=sget_st (stA_of ho)
           have hs0:0<S.sz τ':=@Enc.pos _ (encI S τ')
           have hx':ev s.er x=some (.osl h2 (S.sz τ') 0 n):=by have:=tev_ok hx;rw[this];show some (G.osl _ _ (0*_) _)=_;rw[Nat.zero_mul]
           have hlm:((l.drop o).take m).length=m:=by rw[List.length_take,List.length_drop];omega
           have hmin:Nat.min ((l.drop o).take m).length m=m:=by rw[hlm];exact Nat.min_self m
           have hcut:((List.flatMap (encT S τ') l).drop (o*S.sz τ')).take (m*S.sz τ')=List.flatMap (encT S τ') ((l.drop o).take m):=by rw[encs_dropT,encs_takeT]
           have hc:(List.flatMap (encT S τ') l).take (n*S.sz τ')++List.flatMap (encT S τ') ((l.drop o).take m)++(List.flatMap (encT S τ') l).drop (n*S.sz τ'+(List.flatMap (encT S τ') ((l.drop o).take m)).length)=List.flatMap (encT S τ') (cpy l ((l.drop o).take m) n m):=by
            rw[encs_lengthT,hlm,←Nat.add_mul,encs_takeT,encs_dropT,←encs_appendT,←encs_appendT]
            unfold cpy
            rw[hmin]
            congr 3
            exact(List.take_of_length_le (by omega)).symm
           have hln:(TO.arr e mi f τ' (cpy l ((l.drop o).take m) n m):TO S).len=(TO.arr e mi f τ' l:TO S).len:=cpy_length c1
           obtain⟨e2,e3⟩:=set_er (o':=.arr e mi f τ' (cpy l ((l.drop o).take m) n m)) ho hln
           have hgs:gsrc s.er.st (S.sz τ') (.osl h2 (S.sz τ') (o*S.sz τ') m)=some (List.flatMap (encT S τ') ((l.drop o).take m),m,f):=by
            simp only[gsrc,ho']
            show some (_,m,f)=_
            exact congrArg (fun q=>some (q,m,f)) hcut
           refine⟨_,EF.appendIn (f:=f) (newsG:=List.flatMap (encT S τ') ((l.drop o).take m)) (m:=m) (gy:=.osl h2 (S.sz τ') (o*S.sz τ') m) hx' (tev_ok hy) ho' rfl rfl (by show _≤(List.flatMap (encT S τ') l).length;rw[encs_lengthT];exact Nat.mul_le_mul_right _ c1) hs0 hgs (by rw[encs_lengthT,hlm]) (fun g hg=>by
            obtain⟨a,ha,hg⟩:=List.mem_flatMap.1 hg
            exact encT_ones S τ' a g hg) hu hi (hokW h2 hW) rfl,fun s' hs'=>⟨_,?_,(hl.set ho _).put _ _,⟨rfl,rfl,rfl⟩,hkk⟩⟩
           have hval:∀q,(TV.sub h2 τ' 0 q:TV S).er (s.set h2 (.arr e mi f τ' (cpy l ((l.drop o).take m) n m))).ln=.osl h2 (S.sz τ') 0 q:=fun q=>by show G.osl _ _ (0*_) _=_;rw[Nat.zero_mul]
           rcases hs' with hs' | ⟨h0,hs'⟩
           ·subst hs'
            rw[put_er,e2,hval]
            show Gh ⟨(d,.osl h2 (S.sz τ') 0 (n+m))::s.er.fr,sset s.er.st h2 ⟨e,true,mi,f&&f,S.sz τ',(List.flatMap (encT S τ') l).take (n*S.sz τ')++List.flatMap (encT S τ') ((l.drop o).take m)++(List.flatMap (encT S τ') l).drop (n*S.sz τ'+(List.flatMap (encT S τ') ((l.drop o).take m)).length),none⟩,s.er.df⟩ ⟨(d,.osl h2 (S.sz τ') 0 (n+m))::s.er.fr,sset s.er.st h2 ⟨e,true,mi,f,S.sz τ',List.flatMap (encT S τ') (cpy l ((l.drop o).take m) n m),none⟩,s.er.df⟩
            rw[hc,Bool.and_self]
            exact Gh.refl _
           ·subst hs'
            subst h0
            rw[put_er,e2,hval,cpy_none hmin]
            have:=sset_self ho'
            show Gh ⟨(d,.osl h2 (S.sz τ') 0 n)::s.er.fr,s.er.st,s.er.df⟩ ⟨(d,.osl h2 (S.sz τ') 0 n)::s.er.fr,sset s.er.st h2 (TO.er s.ln (.arr e mi f τ' l)),s.er.df⟩
            rw[sset_self ho']
            exact Gh.refl _
          ·cases h
         ·cases h
        ·cases h
     ·cases h
    ·cases h
   ·cases h
 ·cases h
theorem clearC_ok {ok:Nat→Bool}(hokW:∀h,ok h=true→W.contains h=true){args:Array Operand}{ts:Array TypeId}(hl:LInv s) (h:clearC P ok s ⟨.builtin .clear,args,ts⟩ k=some r):
  EfOk P W s ⟨none,.call ⟨.builtin .clear,args,ts⟩,ty,pos,after,guard⟩ k r:=by
 unfold clearC at h
 dsimp only at h
 split at h
 ·rename_i x t h1 h2
  have h1:=toList1 h1
  have h2:=toList1 h2
  subst h1;subst h2
  split at h
  ·rename_i e0 hu
   split at h
   ·rename_i hh τ o n hx
    split at h
    ·cases h
    ·rename_i hW
     split at h
     ·rename_i e mi f τ' l ho
      split at h
      ·rename_i e1 _
       subst e1
       split at h
       ·rename_i i hi
        split at h
        ·rename_i z hz
         split at h
         ·rename_i a ha
          obtain⟨u,hck,h⟩:=bind_some h
          have c1:=chk_spec hck
          obtain⟨z1,z2⟩:=zeroT_ok ha
          have ho':=sget_st (stA_of ho)
          have hln:(TO.arr e mi f τ' (cpy l (List.replicate n a) o n):TO S).len=(TO.arr e mi f τ' l:TO S).len:=cpy_length c1
          obtain⟨e2,e3⟩:=set_er (o':=.arr e mi f τ' (cpy l (List.replicate n a) o n)) ho hln
          have hze:(Builtin.zeroCells z.cells n).toList.map viewV=List.flatMap (encT S τ') (List.replicate n a):=by
           letI:=encI S τ'
           exact zeros_enc (α:=S.D τ') z2 z1 n
          have hmin:Nat.min (List.replicate n a).length n=n:=by rw[List.length_replicate];exact Nat.min_self n
          have hc:(List.flatMap (encT S τ') l).take (o*S.sz τ')++(Builtin.zeroCells z.cells n).toList.map viewV++(List.flatMap (encT S τ') l).drop (o*S.sz τ'+n*S.sz τ')=List.flatMap (encT S τ') (cpy l (List.replicate n a) o n):=by
           rw[hze,←Nat.add_mul,encs_takeT,encs_dropT,←encs_appendT,←encs_appendT]
           unfold cpy
           rw[hmin]
           congr 3
           exact(List.take_of_length_le (by rw[List.length_replicate];exact Nat.le_refl _)).symm
          refine⟨_,EF.clear (tev_ok hx) ho' rfl (by show _≤(List.flatMap (encT S τ') l).length;rw[encs_lengthT,←Nat.add_mul];exact Nat.mul_le_mul_right _ c1) hu (by rw[hi,Option.map_some,hz]) z2 (fun i v hv=>by
           have:viewV v∈encT S τ' a:=by
            rw[←z1]
            exact List.mem_map.2 ⟨v,List.mem_of_getElem? (by rw[Array.getElem?_toList];exact hv),rfl⟩
           have:=encT_ones S τ' a _ this
           unfold viewV at this
           split at this
           ·rfl
           ·exact this) (hokW hh hW) rfl,fun s' hs'=>⟨_,?_,hl.set ho _,⟨rfl,rfl,rfl⟩,h⟩⟩
          rw[e2]
          rcases hs' with hs' | ⟨h0,hs'⟩
          ·subst hs'
           show Gh ⟨s.er.fr,sset s.er.st hh ⟨e,true,mi,f&&true,S.sz τ',(List.flatMap (encT S τ') l).take (o*S.sz τ')++(Builtin.zeroCells z.cells n).toList.map viewV++(List.flatMap (encT S τ') l).drop (o*S.sz τ'+n*S.sz τ'),none⟩,s.er.df⟩ ⟨s.er.fr,sset s.er.st hh ⟨e,true,mi,f,S.sz τ',List.flatMap (encT S τ') (cpy l (List.replicate n a) o n),none⟩,s.er.df⟩
           rw[hc,Bool.and_true]
           exact Gh.refl _
          ·subst hs'
           subst h0
           rw[cpy_none hmin]
           show Gh ⟨s.er.fr,s.er.st,s.er.df⟩ ⟨s.er.fr,sset s.er.st hh (TO.er s.ln (.arr e mi f τ' l)),s.er.df⟩
           rw[sset_self ho']
           exact Gh.refl _
         ·cases h
        ·cases h
       ·cases h
      ·cases h
     ·cases h
   ·cases h
  ·cases h
 ·cases h
end
end
end Go.DN
/-
 DN,part Kg:slices of structs of slices:made;one of the slices is taken out,and put in.
-/
namespace Go.DN
open Go.AM
theorem flat_get {α β:Type}(f:α→List β){n:Nat}(hn:∀a,(f a).length=n){j:Nat}(hj:j<n):∀(l:List α) (i:Nat),(l.flatMap f)[i*n+j]?=(l[i]?).bind fun a=>(f a)[j]?
 | [],i=>by simp
 | a::l,0=>by
  rw[List.flatMap_cons,Nat.zero_mul,Nat.zero_add,List.getElem?_append_left (by rw[hn];exact hj)]
  rfl
 | a::l,i+1=>by
  rw[List.flatMap_cons,List.getElem?_append_right (by rw[hn,Nat.succ_mul];omega),hn,show(i+1)*n+j-n=i*n+j by rw[Nat.succ_mul];omega,flat_get f hn hj l i]
  rfl
theorem flat_len {α β:Type}(f:α→List β){n:Nat}(hn:∀a,(f a).length=n):∀l:List α,(l.flatMap f).length=l.length*n
 | []=>by simp
 | a::l=>by rw[List.flatMap_cons,List.length_append,hn,flat_len f hn l,List.length_cons,Nat.succ_mul];omega
theorem flat_set {α β:Type}(f:α→List β){n:Nat}(hn:∀a,(f a).length=n){j:Nat}(hj:j<n){a':α}{b:β}:∀(l:List α) (i:Nat) (a:α),l[i]?=some a→f a'=(f a).set j b→(l.set i a').flatMap f=(l.flatMap f).set (i*n+j) b
 | [],i,a,h,_=>by cases h
 | c::l,0,a,h,e=>by
  cases h
  rw[List.set_cons_zero,List.flatMap_cons,List.flatMap_cons,Nat.zero_mul,Nat.zero_add,List.set_append_left _ _ (by rw[hn];exact hj),e]
 | c::l,i+1,a,h,e=>by
  rw[List.set_cons_succ,List.flatMap_cons,List.flatMap_cons,flat_set f hn hj l i a h e,List.set_append_right _ _ (by rw[hn,Nat.succ_mul];omega),hn,show(i+1)*n+j-n=i*n+j by rw[Nat.succ_mul];omega]
theorem flat_rep {α β:Type}(f:α→List β){n:Nat}{a:α}{b:β}(h:f a=List.replicate n b):∀m:Nat,(List.replicate m a).flatMap f=List.replicate (m*n) b
 | 0=>by simp
 | m+1=>by rw[List.replicate_succ,List.flatMap_cons,h,flat_rep f h m,Nat.succ_mul,Nat.add_comm (m*n),List.replicate_append_replicate]
def isNilS:Value→Bool
 | .slice none 0 0=>true
 | _=>false
theorem isNilS_eq {v:Value}(h:isNilS v=true):v=.slice none 0 0:=by
 unfold isNilS at h
 split at h
 ·rfl
 ·cases h
section
variable {S:Sig}
variable {P:Program}{W:List Nat}{ok:Nat→Bool}{s:TSt S}{ty:TypeId}{pos:String}{after:Array Edge}{guard:Option (Nat×Bool)}{A:Type}{k:TSt S→Option A}{r:A}
theorem row_len (n:Nat) (a:S.α n):((S.cells n a).map rowL).length=(S.tys n).length:=by
 rw[List.length_map,←S.tys_cells n a,List.length_map]
def isRowMk (S:Sig) (P:Program) (t:TypeId):Bool:=match P.underlying t with
 | some (.slice e)=>(S.rowK e).isSome
 | _=>false
def mkRowsC (P:Program) (s:TSt S) (d:Nat) (t:TypeId) (x y:Operand){A:Type}(k:TSt S→Option A):Option A:=
 match s.free (s.hnd d) with
 | true=>match P.underlying t with
  | some (.slice e)=>match S.rowK e with
   | some kty=>match S.tyS e with
    | some (.st n)=>match rowTy (S:=S) n with
     | some _=>match P.info? e with
      | some i=>match i.zero with
       | some z=>match zeroT (S:=S) (.st n) z,z.cells.toList.all isNilS with
        | some a,true=>match tev s x with
         | some (.dat _ (.int _) m)=>match tev s y with
          | some (.dat _ (.int _) c)=>match decEq i.size (S.sz (.st n)),inner ((s.add (s.hnd d) (.arr e true true (.st n) (List.replicate (Int.toNat m) a))).put d (.osl (s.hnd d) (.st n))) [s.hnd d] with
           | isTrue _,true=>(chk (0≤m∧m≤c∧(i.bytes:Int)*c≤281474976710656∧c≤9223372036854775807)).bind fun _=>
            k (((s.add (s.hnd d) (.arr e true true (.st n) (List.replicate (Int.toNat m) a))).put d (.osl (s.hnd d) (.st n))).hand (s.hnd d) [] (.deep e true true (.rows kty none) (.list (.st n)) (List.replicate (Int.toNat m) a)))
           | _,_=>none
          | _=>none
         | _=>none
        | _,_=>none
       | none=>none
      | none=>none
     | none=>none
    | _=>none
   | none=>none
  | _=>none
 | false=>none
theorem zero_rows {n:Nat}{t:Ty}{z:Value}{a:S.α n}(ht:rowTy (S:=S) n=some t) (hz:zeroT (S:=S) (.st n) z=some a) (hn:z.cells.toList.all isNilS=true):(S.cells n a).map rowL=List.replicate (S.tys n).length (0,[]):=by
 obtain⟨z1,z2⟩:=zeroT_ok hz
 rw[enc_st] at z1
 rw[List.eq_replicate_iff]
 refine⟨row_len n a,fun q hq=>?_⟩
 obtain⟨x,hx,rfl⟩:=List.mem_map.1 hq
 have h1:=rowTy_ok ht x.τ (by rw[←S.tys_cells n a];exact List.mem_map_of_mem hx)
 have h2:cellG S x.τ x.a∈z.cells.toList.map viewV:=by rw[z1];exact List.mem_map.2 ⟨x,hx,rfl⟩
 obtain⟨v,hv,e⟩:=List.mem_map.1 h2
 rw[isNilS_eq (List.all_eq_true.1 hn v hv),rowL_leaf h1] at e
 have e:G.sl 0 []=.sl (rowL x).1 (rowL x).2:=e
 injection e with e1 e2
 exact Prod.ext e1.symm e2.symm
theorem mkRowsC_ok {d:Nat}{t:TypeId}{x y:Operand}(hl:LInv s) (h:mkRowsC P s d t x y k=some r):EfOk P W s ⟨some d,.makeSlice t x y,ty,pos,after,guard⟩ k r:=by
 unfold mkRowsC at h
 split at h
 ·rename_i hf
  split at h
  ·rename_i e hu
   split at h
   ·rename_i kty hkty
    split at h
    ·rename_i n hty
     split at h
     ·rename_i t0 ht
      split at h
      ·rename_i i hi
       split at h
       ·rename_i z hz
        split at h
        ·rename_i a ha hnil
         split at h
         ·rename_i m hx
          split at h
          ·rename_i c hy
           split at h
           ·rename_i hs _ hin
            obtain⟨_,hc,h⟩:=bind_some h
            obtain⟨c1,c2,c3,c4⟩:=chk_spec hc
            obtain⟨z1,z2⟩:=zeroT_ok ha
            obtain⟨e1,hag⟩:=add_er hf (.arr e true true (.st n) (List.replicate (Int.toNat m) a)) rfl
            have hff:=free_fresh hf
            generalize hh:s.hnd d=hd at *
            have hrows:(rowsT (.list (.st n)) (List.replicate (Int.toNat m) a):Nat×Nat×List (Nat×List G)).2.2=(List.replicate (Int.toNat m*S.sz (.st n)) (G.val (.slice none 0 0))).map fun _=>(0,[]):=by
             show(List.replicate (Int.toNat m) a).flatMap (fun a=>(S.cells n a).map rowL)=_
             rw[flat_rep (fun a=>(S.cells n a).map rowL) (zero_rows ht ha hnil),List.map_replicate]
             rfl
            have hT:((s.add hd (.arr e true true (.st n) (List.replicate (Int.toNat m) a))).put d (.osl hd (.st n)):TSt S).er={fr:=(d,.osl hd (S.sz (.st n)) 0 (Int.toNat m))::s.er.fr,st:=(hd,(TO.arr e true true (.st n) (List.replicate (Int.toNat m) a):TO S).er s.ln)::s.er.st,df:=s.er.df}:=by
             rw[put_er,e1]
             have e2:(TV.osl hd (.st n):TV S).er (s.add hd (.arr e true true (.st n) (List.replicate (Int.toNat m) a))).ln=.osl hd (S.sz (.st n)) 0 (Int.toNat m):=by
              show G.osl _ _ _ ((s.add hd _).ln hd)=_
              rw[show(s.add hd (.arr e true true (.st n) (List.replicate (Int.toNat m) a))).ln hd=_ from lnO_same _ _]
              show G.osl _ _ _ (List.replicate (Int.toNat m) a).length=_
              rw[List.length_replicate]
             rw[e2]
             rfl
            obtain⟨g1,g2,g3⟩:=hand_ok (s:=(s.add hd (.arr e true true (.st n) (List.replicate (Int.toNat m) a))).put d (.osl hd (.st n))) (h:=hd) (rm:=[]) (o:=.arr e true true (.st n) (List.replicate (Int.toNat m) a)) (o':=.deep e true true (.rows kty none) (.list (.st n)) (List.replicate (Int.toNat m) a))
             (s1:={fr:=unKFr hd ((d,.osl hd (S.sz (.st n)) 0 (Int.toNat m))::s.er.fr),st:=sset (unKSt hd ((hd,(⟨e,true,true,true,S.sz (.st n),List.replicate (Int.toNat m*S.sz (.st n)) (.val (.slice none 0 0)),none⟩:Blk))::s.er.st)) hd ⟨e,true,true,true,1,[],some (.deep (rowsDp e kty (rowsT (.list (.st n)) (List.replicate (Int.toNat m) a):Nat×Nat×List (Nat×List G)).1 (S.sz (.st n)) ((List.replicate (Int.toNat m*S.sz (.st n)) (G.val (.slice none 0 0))).map fun _=>(0,[])) none))⟩,df:=AM.unK.go hd s.er.df})
             (by show oget ((hd,_)::_) hd=_;simp only[oget,Nat.beq_refl,cond_true]) rfl (fun _ _=>rfl) hin (by simp) (by rw[hT]) (by
              rw[sget_sset_same (sget_unKSt_of (sget_cons_same _ _ _))]
              show _=some (Blk.mk _ _ _ _ _ _ (some (.deep (rowsDp e kty _ _ _ none))))
              rw[hrows];rfl) (fun x k0 hx1 _ h0=>by
              rw[hT] at h0
              show sget (sset _ _ _) _=_
              rw[sget_sset_other hx1]
              refine sget_unKSt_of ?_
              have h0:sget ((hd,_)::s.er.st) x=some k0:=h0
              rw[sget_cons_other _ _ hx1] at h0⊢
              exact h0) (by rw[hT])
            refine .one _ (EF.makeV (sz:=S.sz (.st n)) (bt:=i.bytes) hd (evI hx) (evI hy) hu (by rw[hi,Option.map_some,hz,hs]) z2 (sz_pos S _) (fun v hv=>isNilS_eq (List.all_eq_true.1 hnil v hv)) c1 c2 c3 c4 hff) (Gh.trans (fun N cx μ a' w hr=>?_) g1) g2 ⟨g3.lo,g3.lst,g3.df⟩ h
            have hz0:S.sz (.st n)≠0:=Nat.pos_iff_ne_zero.1 (sz_pos S _)
            exact hr.mkRows (k:=⟨e,true,true,true,S.sz (.st n),List.replicate (Int.toNat m*S.sz (.st n)) (.val (.slice none 0 0)),none⟩) (sget_cons_same _ _ _) rfl rfl hz0 (fun g hg=>List.eq_of_mem_replicate hg) (not_pinned (fresh_spec hff).2.2.2.2) kty _
           ·cases h
          ·cases h
         ·cases h
        ·cases h
       ·cases h
      ·cases h
     ·cases h
    ·cases h
   ·cases h
  ·cases h
 ·cases h
def isRowLd (s:TSt S) (op:Op):Bool:=match op with
 | .load _ x=>match tev s x with
  | some (.elt h _ _ _)=>isRows s h
  | _=>false
 | _=>false
def leafL (t:Ty) (x:Leaf S.α):Option (List (S.D t)):=castT x.τ (.list t) x.a
def rowOutC (P:Program) (ok:Nat→Bool) (s:TSt S) (d:Nat) (t:TypeId) (x:Operand){A:Type}(k:TSt S→Option A):Option A:=
 match tev s x with
 | some (.elt h (.st n) i j)=>match oget s.st h with
  | some (.deep e m f (.rows kty none) (.list (.st n')) l)=>match rowTy (S:=S) n',decEq n n',aggP P t with
   | some t2,isTrue _,some false=>(l[i]?).bind fun a=>match (S.cells n' a)[j]? with
    | some z=>match leafL t2 z with
     | some l2=>match s.free (s.hnd d)&&(ok h&&(Nat.blt h 1000&&(!(Nat.beq (s.hnd d) h)&&inner ((s.add (s.hnd d) (.arr kty m f t2 l2)).put d (.osl (s.hnd d) t2)) [h]))) with
      | true=>k (((s.add (s.hnd d) (.arr kty m f t2 l2)).put d (.osl (s.hnd d) t2)).hand h [] (.deep e m f (.rows kty (some (i*(S.tys n').length+j))) (.list (.st n')) l))
      | false=>none
     | none=>none
    | none=>none
   | _,_,_=>none
  | _=>none
 | _=>none
theorem rowOutC_ok (hokW:∀h,ok h=true→W.contains h=true){d:Nat}{t:TypeId}{x:Operand}(hl:LInv s) (h:rowOutC P ok s d t x k=some r):EfOk P W s ⟨some d,.load t x,ty,pos,after,guard⟩ k r:=by
 unfold rowOutC at h
 split at h
 ·rename_i hh n i j hx
  split at h
  ·rename_i e m f kty n' l ho
   split at h
   ·rename_i t2 hn ht _ hag
    subst hn
    obtain⟨a,ha,h⟩:=bind_some h
    split at h
    ·rename_i z hz
     split at h
     ·rename_i l2 hl2
      split at h
      ·rename_i hc
       simp only[Bool.and_eq_true,Bool.not_eq_true'] at hc
       obtain⟨hf,c1,c2,c3,hin⟩:=hc
       have hff:=free_fresh hf
       generalize hd2:s.hnd d=hd at *
       have hne:hh≠hd:=fun e=>by subst e;rw[Nat.beq_refl] at c3;cases c3
       obtain⟨e1,hag2⟩:=add_er hf (.arr kty m f t2 l2) rfl
       have hk:=sget_st (stA_of ho)
       have hT:((s.add hd (.arr kty m f t2 l2)).put d (.osl hd t2):TSt S).er={fr:=(d,.osl hd (S.sz t2) 0 l2.length)::s.er.fr,st:=(hd,(TO.arr kty m f t2 l2:TO S).er s.ln)::s.er.st,df:=s.er.df}:=by
        rw[put_er,e1]
        have e2:(TV.osl hd t2:TV S).er (s.add hd (.arr kty m f t2 l2)).ln=.osl hd (S.sz t2) 0 l2.length:=by
         show G.osl _ _ _ ((s.add hd _).ln hd)=_
         rw[show(s.add hd (.arr kty m f t2 l2)).ln hd=_ from lnO_same _ _]
         rfl
        rw[e2]
        rfl
       have hjl:j<(S.tys n).length:=by
        have:=(List.getElem?_eq_some_iff.1 hz).1
        rwa[←List.length_map (f:=Leaf.τ),S.tys_cells] at this
       have hzr:rowL z=(l2.length,List.flatMap (encT S t2) l2):=by
        obtain⟨τ,b⟩:=z
        have h1:=castT_some hl2
        rw[h1];rfl
       have hrow:(rowsT (.list (.st n)) l:Nat×Nat×List (Nat×List G)).2.2[i*(S.tys n).length+j]?=some (l2.length,List.flatMap (encT S t2) l2):=by
        show(List.flatMap (fun a=>(S.cells n a).map rowL) l)[_]?=_
        rw[flat_get (fun a=>(S.cells n a).map rowL) (row_len n) hjl,ha,Option.bind_some,List.getElem?_map,hz,←hzr];rfl
       have hsz:(rowsT (.list (.st n)) l:Nat×Nat×List (Nat×List G)).1=S.sz t2:=rowTy_sz ht
       obtain⟨g1,g2,g3⟩:=hand_ok (s:=(s.add hd (.arr kty m f t2 l2)).put d (.osl hd t2)) (h:=hh) (rm:=[]) (o:=.deep e m f (.rows kty none) (.list (.st n)) l) (o':=.deep e m f (.rows kty (some (i*(S.tys n).length+j))) (.list (.st n)) l)
        (s1:={fr:=(d,.osl hd (S.sz t2) 0 l2.length)::unKFr hh s.er.fr,st:=(hd,(TO.arr kty m f t2 l2:TO S).er s.ln)::sset (unKSt hh s.er.st) hh ((TO.deep e m f (.rows kty (some (i*(S.tys n).length+j))) (.list (.st n)) l:TO S).er s.ln),df:=AM.unK.go hh s.er.df})
        (by show oget ((hd,_)::s.st) hh=_;rw[oget_cons_other _ _ hne];exact ho) rfl (fun _ _=>rfl) hin (by simp) (by rw[hT];rfl) (by
         rw[sget_cons_other _ _ hne,sget_sset_same (sget_unKSt_of hk)];rfl) (fun x k0 hx1 _ h0=>by
         rw[hT] at h0
         show sget ((hd,_)::_) x=_
         by_cases e:x=hd
         ·subst e
          have h0:sget ((x,_)::s.er.st) x=some k0:=h0
          rw[sget_cons_same] at h0⊢
          cases h0
          rfl
         ·have h0:sget ((hd,_)::s.er.st) x=some k0:=h0
          rw[sget_cons_other _ _ e] at h0
          rw[sget_cons_other _ _ e,sget_sset_other hx1]
          exact sget_unKSt_of h0) (by rw[hT])
       refine .one _ (EF.rowOut (P:=P) (W:=W) (d:=d) (t:=t) (x:=x) (h:=hh) (h2:=hd) (i:=i*(S.tys n).length+j) (n:=l2.length) (sz:=S.sz t2) (z:=(S.tys n).length) (ety:=e) (kty:=kty) (by rw[tev_ok hx];rfl) hk (by rw[←hsz];rfl) hrow (not_pinned c2) hff (sz_pos S t2) (aggP_ok hag) (hokW _ c1)) (Gh.trans ?_ g1) g2 ⟨g3.lo,g3.lst,g3.df⟩ h
       have hq:(TO.arr kty m f t2 l2:TO S).er s.ln=⟨kty,true,m,f,S.sz t2,List.flatMap (encT S t2) l2,none⟩:=rfl
       rw[hq,←hsz]
       exact Gh.refl _
      ·cases h
     ·cases h
    ·cases h
   ·cases h
  ·cases h
 ·cases h
def hoC (ho:Option Nat) (q:Nat){A:Type}(k:Option A):Option A:=match ho with
 | none=>k
 | some p=>(chk (p=q)).bind fun _=>k
theorem hoC_ok {ho:Option Nat}{q:Nat}{A:Type}{k:Option A}{r:A}(h:hoC ho q k=some r):(ho=none∨ho=some q)∧k=some r:=by
 unfold hoC at h
 split at h
 ·exact⟨.inl rfl,h⟩
 ·obtain⟨_,h1,h⟩:=bind_some h
  exact⟨.inr (by rw[chk_spec h1]),h⟩
def rowInC (P:Program) (ok:Nat→Bool) (s:TSt S) (t:TypeId) (x y:Operand){A:Type}(k:TSt S→Option A):Option A:=
 match tev s x with
 | some (.elt h (.st n) i j)=>match tev s y with
  | some (.osl h2 t2)=>match ok h&&(ok h2&&(Nat.blt h 1000&&(!(Nat.beq h2 h)&&inner s [h,h2]))) with
   | true=>match oget s.st h with
    | some (.deep e m f (.rows kty ho) (.list (.st n')) l)=>match oget s.st h2 with
     | some (.arr e2 m2 f2 τ2 l2)=>match decEq (rowTy (S:=S) n') (some τ2),decEq n n',decEq t2 τ2,decEq e2 kty,decEq (sizP P t) (some 1),(!m||m2)&&Nat.blt j (S.tys n').length with
      | isTrue _,isTrue _,isTrue _,isTrue _,isTrue _,true=>hoC ho (i*(S.tys n').length+j) ((l[i]?).bind fun a=>match S.put n' ((S.cells n' a).set j ⟨.list τ2,l2⟩) with
       | some a'=>k (s.hand h [h2] (.deep e m (f&&f2) (.rows kty none) (.list (.st n')) (List.set l i a')))
       | none=>none)
      | _,_,_,_,_,_=>none
     | _=>none
    | _=>none
   | false=>none
  | _=>none
 | _=>none
theorem rowInC_ok (hokW:∀h,ok h=true→W.contains h=true){t:TypeId}{x y:Operand}(hl:LInv s) (h:rowInC P ok s t x y k=some r):EfOk P W s ⟨none,.store t x y,ty,pos,after,guard⟩ k r:=by
 unfold rowInC at h
 split at h
 ·rename_i hh n i j hx
  split at h
  ·rename_i h2 t2 hy
   split at h
   ·rename_i hc
    simp only[Bool.and_eq_true,Bool.not_eq_true'] at hc
    obtain⟨c1,c2,c3,c4,c5⟩:=hc
    split at h
    ·rename_i e m f kty ho' n' l ho
     split at h
     ·rename_i e2 m2 f2 τ2 l2 ho2
      split at h
      ·rename_i ht hn q2 q3 hsz _ _ _ _ _ hmj
       subst hn;subst q2;subst q3
       obtain⟨hho,h⟩:=hoC_ok h
       obtain⟨a,ha,h⟩:=bind_some h
       split at h
       ·rename_i a' hput
        simp only[Bool.and_eq_true] at hmj
        obtain⟨hm,hj⟩:=hmj
        have hj:j<(S.tys n).length:=by simpa[Nat.blt_eq] using hj
        have hk:=sget_st (stA_of ho)
        have hk2:=sget_st (stA_of ho2)
        have hne:hh≠h2:=fun e=>by subst e;rw[Nat.beq_refl] at c4;cases c4
        have hkd:sget (sdel s.er.st h2) hh=some _:=sget_sdel_of hne hk
        have hrows:(rowsT (.list (.st n)) (List.set l i a'):Nat×Nat×List (Nat×List G)).2.2=(rowsT (.list (.st n)) l:Nat×Nat×List (Nat×List G)).2.2.set (i*(S.tys n).length+j) (List.length l2,List.flatMap (encT S t2) l2):=by
         refine flat_set (fun a=>(S.cells n a).map rowL) (row_len n) hj l i a ha ?_
         rw[S.put_cells n _ _ hput,List.map_set]
         rfl
        have hlt:i*(S.tys n).length+j<(rowsT (.list (.st n)) l:Nat×Nat×List (Nat×List G)).2.2.length:=by
         show _<(List.flatMap (fun a=>(S.cells n a).map rowL) l).length
         rw[flat_len (fun a=>(S.cells n a).map rowL) (row_len n)]
         have hil:=(List.getElem?_eq_some_iff.1 ha).1
         have:=Nat.mul_le_mul_right (S.tys n).length (show i+1≤l.length by omega)
         rw[Nat.succ_mul] at this
         omega
        have hsze:(rowsT (.list (.st n)) l:Nat×Nat×List (Nat×List G)).1=S.sz t2:=rowTy_sz ht
        have hoE:(TO.deep e m (f&&f2) (.rows e2 none) (.list (.st n)) (List.set l i a'):TO S).er s.ln=⟨e,true,m,f&&f2,1,[],some (.deep (rowsDp e e2 (S.sz t2) (S.tys n).length ((rowsT (.list (.st n)) l:Nat×Nat×List (Nat×List G)).2.2.set (i*(S.tys n).length+j) (List.length l2,List.flatMap (encT S t2) l2)) none))⟩:=by
         show Blk.mk _ _ _ _ _ _ (some (.deep (rowsDp e e2 (rowsT (.list (.st n)) l:Nat×Nat×List (Nat×List G)).1 (S.tys n).length _ none)))=_
         rw[hrows,hsze]
        obtain⟨g1,g2,g3⟩:=hand_ok (s:=s) (h:=hh) (rm:=[h2]) (o':=.deep e m (f&&f2) (.rows e2 none) (.list (.st n)) (List.set l i a'))
         (s1:={fr:=unKFr hh s.er.fr,st:=sset (unKSt hh (sdel s.er.st h2)) hh ⟨e,true,m,f&&f2,1,[],some (.deep (rowsDp e e2 (S.sz t2) (S.tys n).length ((rowsT (.list (.st n)) l:Nat×Nat×List (Nat×List G)).2.2.set (i*(S.tys n).length+j) (List.length l2,List.flatMap (encT S t2) l2)) none))⟩,df:=AM.unK.go hh s.er.df})
         ho (by show(List.set l i a').length=l.length;exact List.length_set) (fun _ _=>rfl) c5 (by simpa using hne) rfl (by rw[hoE,sget_sset_same (sget_unKSt_of hkd)]) (fun x k0 hx1 hx2 h0=>by
          show sget (sset _ _ _) _=_
          rw[sget_sset_other hx1]
          exact sget_unKSt_of (sget_sdel_of (by simpa using hx2) h0)) rfl
        refine .one _ (EF.rowIn (P:=P) (W:=W) (t:=t) (x:=x) (y:=y) (h:=hh) (h2:=h2) (i:=i*(S.tys n).length+j) (sz:=S.sz t2) (z:=(S.tys n).length) (n:=List.length l2) (ho:=ho') (by rw[tev_ok hx];rfl) (by rw[tev_ok hy];show some (G.osl h2 (S.sz t2) 0 (s.ln h2))=_;rw[ln_arr (stA_of ho2)]) c4 hk (by rw[←hsze];rfl) hho hlt (not_pinned c3) hk2 rfl rfl rfl rfl (sz_pos S t2)
         (by show(List.flatMap (encT S t2) l2).length=_;rw[encs_lengthT]) (fun hm'=>by
          have hm':m=true:=hm'
          rw[hm'] at hm
          exact(by simpa using hm:m2=true)) (sizP_ok hsz) (hokW _ c1) (hokW _ c2)) g1 g2 g3 h
       ·cases h
      ·cases h
     ·cases h
    ·cases h
   ·cases h
  ·cases h
 ·cases h
end
end Go.DN
/-
 DN,part Kh:maps are made,get an entry more;a slice of one of the structs grows.
-/
namespace Go.DN
open Go.AM
section
variable {S:Sig}
def mapTy (P:Program) (t:TypeId):Option (IntKind×TypeId×TypeId):=
 match P.underlying t with
 | some (.map kt et)=>match P.underlying kt,P.underlying et with
  | some (.struct fs),some (.pointer tt)=>match P.underlying tt with
   | some (.struct gs)=>match fs.toList,gs.toList with
    | f0::_,g0::_=>match P.underlying f0.type,P.underlying g0.type with
     | some (.int q),some (.slice e)=>some (q,e,tt)
     | _,_=>none
    | _,_=>none
   | _=>none
  | _,_=>none
 | _=>none
def mkMapC (P:Program) (s:TSt S) (d:Nat) (t:TypeId) (n:Option Operand){A:Type}(k:TSt S→Option A):Option A:=
 match n with
 | none=>match s.free (s.hnd d) with
  | true=>match mapTy P t with
   | some (q,kty,tty)=>k ((s.add (s.hnd d) (.deep 0 true true (.map q kty tty) .map ⟨0,[],none⟩)).put d (.mp (s.hnd d)))
   | none=>none
  | false=>none
 | some _=>none
def TV.rk (q:IntKind) (h2 h n:Nat):TV S→TV S
 | .loc x off=>bif Nat.beq x h2 then .kp h (.list (.int q)) n off else .loc x off
 | v=>match v.has h2 with | true=>.any | false=>v
def rkF (q:IntKind) (h2 h n:Nat):List (Nat×TV S)→List (Nat×TV S)
 | []=>[]
 | (t,v)::r=>(t,v.rk q h2 h n)::rkF q h2 h n r
def TO.rk (q:IntKind) (h2 h n:Nat):TO S→TO S
 | .box e m cs=>.box e m (cs.map (TV.rk q h2 h n))
 | .lp l m cs=>.lp l m (cs.map (TV.rk q h2 h n))
 | o=>o
def rkS (q:IntKind) (h2 h n:Nat):List (Nat×TO S)→List (Nat×TO S)
 | []=>[]
 | (t,o)::r=>bif Nat.beq t h2 then rkS q h2 h n r else(t,o.rk q h2 h n)::rkS q h2 h n r
def TSt.rk (s:TSt S) (q:IntKind) (h2 h n:Nat) (o:TO S):TSt S:={s with fr:=rkF q h2 h n s.fr,st:=(h,o)::rkS q h2 h n s.st,last:=[]}
theorem rk_id {q:IntKind}{h2 h n:Nat}{v:TV S}(hv:v.has h2=false):v.rk q h2 h n=v:=by
 cases v with
 | loc x off=>
  show(bif Nat.beq x h2 then _ else _)=_
  rw[show Nat.beq x h2=false from hv];rfl
 | _=>simp only[TV.rk,hv]
theorem rk_idL {q:IntKind}{h2 h n:Nat}:∀{l:List (TV S)},TV.has.go h2 l=false→l.map (TV.rk q h2 h n)=l
 | [],_=>rfl
 | v::r,e=>by
  simp only[TV.has.go,Bool.or_eq_false_iff] at e
  rw[List.map_cons,rk_id e.1,rk_idL e.2]
theorem rk_len (q:IntKind) (h2 h n:Nat) (o:TO S):(o.rk q h2 h n).len=o.len:=by cases o <;> rfl
theorem tget_rkF {q:IntKind}{h2 h n:Nat}:∀{fr:List (Nat×TV S)}{d:Nat},tget (rkF q h2 h n fr) d=(tget fr d).map (TV.rk q h2 h n)
 | [],_=>rfl
 | (t,v)::r,d=>by
  simp only[rkF,tget]
  cases Nat.beq t d with
  | true=>rfl
  | false=>exact tget_rkF
theorem oget_rkS {q:IntKind}{h2 h n:Nat}:∀{st:List (Nat×TO S)}{x:Nat},oget (rkS q h2 h n st) x=bif Nat.beq x h2 then none else(oget st x).map (TO.rk q h2 h n)
 | [],x=>by simp only[rkS,oget,Option.map_none];cases Nat.beq x h2 <;> rfl
 | (t,o)::r,x=>by
  simp only[rkS]
  cases hm:Nat.beq t h2 with
  | true=>
   simp only[cond_true]
   rw[oget_rkS]
   simp only[oget]
   cases hb:Nat.beq t x with
   | true=>
    have:=Nat.eq_of_beq_eq_true hb
    subst this
    rw[hm];rfl
   | false=>rfl
  | false=>
   simp only[oget,cond_false]
   cases hb:Nat.beq t x with
   | true=>
    have:=Nat.eq_of_beq_eq_true hb
    subst this
    rw[hm];rfl
   | false=>exact oget_rkS
theorem rk_stA {s:TSt S}{q:IntKind}{h h2 n:Nat}{o:TO S}(hi:inner s [h2]=true) (x:Nat):oget (s.rk q h2 h n o).stA x=bif Nat.beq h x then some o else bif Nat.beq x h2 then none else(oget s.stA x).map (TO.rk q h2 h n):=by
 obtain⟨i1,i2,i3,i4⟩:=inner_spec hi h2 List.mem_cons_self
 show oget ((h,o)::(rkS q h2 h n s.st++s.lst)) x=_
 simp only[oget]
 cases hb:Nat.beq h x with
 | true=>rfl
 | false=>
  simp only[cond_false]
  rw[oget_appA,oget_rkS]
  show _=bif Nat.beq x h2 then none else(oget (s.st++s.lst) x).map (TO.rk q h2 h n)
  rw[oget_appA]
  cases hm:Nat.beq x h2 with
  | true=>
   have:=Nat.eq_of_beq_eq_true hm
   subst this
   exact i1
  | false=>
   simp only[cond_false]
   cases h1:oget s.st x with
   | some o=>rfl
   | none=>
    show oget s.lst x=(oget s.lst x).map _
    cases h3:oget s.lst x with
    | none=>rfl
    | some o2=>
     rw[Option.map_some]
     have hn:o2.has h2=false:=stHas_get h3 i4
     cases o2 with
     | box e m cs=>simp only[TO.rk];rw[rk_idL (l:=cs) hn]
     | lp l n cs=>simp only[TO.rk];rw[rk_idL (l:=cs) hn]
     | _=>rfl
theorem rk_frA {s:TSt S}{q:IntKind}{h h2 n:Nat}{o:TO S}(hi:inner s [h2]=true) (d:Nat):tget (s.rk q h2 h n o).frA d=(tget s.frA d).map (TV.rk q h2 h n):=by
 show tget (rkF q h2 h n s.fr++s.lo) d=(tget (s.fr++s.lo) d).map _
 rw[tget_app,tget_app,tget_rkF]
 cases tget s.fr d with
 | some v=>rfl
 | none=>
  show tget s.lo d=(tget s.lo d).map _
  cases h3:tget s.lo d with
  | none=>rfl
  | some v=>rw[Option.map_some,rk_id (frHas_get h3 (inner_spec hi h2 List.mem_cons_self).2.2.1)]
theorem get_rnFr_of {rn:G→G}:∀{fr:List (Nat×G)}{t:Nat}{g:G},AM.get fr t=some g→AM.get (rnFr rn fr) t=some (rn g)
 | [],_,_,e=>by cases e
 | (k,g')::r,t,g,e=>by
  simp only[AM.get] at e
  simp only[rnFr,List.map_cons,AM.get]
  cases hb:Nat.beq k t with
  | true=>rw[hb] at e;cases e;rfl
  | false=>rw[hb] at e;exact get_rnFr_of e
theorem rk_ok {s:TSt S}{q:IntKind}{h h2 n:Nat}{o o':TO S}{s1:St}(ho:oget s.st h=some o) (hlen:o'.len=o.len) (hln:∀ln ln',o'.er ln=o'.er ln') (hi:inner s [h2]=true) (hne:h2≠h)
  (h1:s1.fr=rnFr (rkG h2 h n) s.er.fr) (hst:sget s1.st h=some (o'.er s.ln)) (h3:∀x k0,x≠h→x≠h2→sget s.er.st x=some k0→sget s1.st x=some (rnB (rkG h2 h n) k0)) (h4:s1.df=s.er.df):
  Gh s1 (s.rk q h2 h n o').er∧LInv (s.rk q h2 h n o')∧Keep s (s.rk q h2 h n o'):=by
 have hag:∀x,x≠h2→s.ln x=(s.rk q h2 h n o').ln x:=by
  intro x hx
  show lnO s.stA x=lnO (s.rk q h2 h n o').stA x
  unfold lnO
  rw[rk_stA hi]
  cases hb:Nat.beq h x with
  | true=>
   have:=Nat.eq_of_beq_eq_true hb
   subst this
   rw[stA_of ho];exact hlen.symm
  | false=>
   have hm:Nat.beq x h2=false:=by
    cases hm:Nat.beq x h2 with
    | false=>rfl
    | true=>exact absurd (Nat.eq_of_beq_eq_true hm) hx
   rw[hm]
   simp only[cond_false]
   cases oget s.stA x with
   | none=>rfl
   | some o=>exact(rk_len q h2 h n o).symm
 have hcv:∀v:TV S,CV s1.st (s.rk q h2 h n o').er.st (rkG h2 h n (v.er s.ln)) ((v.rk q h2 h n).er (s.rk q h2 h n o').ln):=by
  intro v
  cases hv:v.has h2 with
  | false=>
   rw[rk_id hv,rkG_no _ (by rw[has_er];exact hv),er_congr (ln:=s.ln) (ln':=(s.rk q h2 h n o').ln) v fun k hk=>hag k fun hm=>by subst hm;rw[hv] at hk;cases hk]
   exact CV.refl _ _ _
  | true=>
   cases v with
   | loc x off=>
    have hv:Nat.beq x h2=true:=hv
    have e1:(TV.loc x off:TV S).rk q h2 h n=.kp h (.list (.int q)) n off:=by
     show(bif Nat.beq x h2 then _ else _)=_
     rw[hv];rfl
    have e2:rkG h2 h n ((TV.loc x off:TV S).er s.ln)=.kp h n off:=by
     show(bif Nat.beq x h2 then _ else _)=_
     rw[hv];rfl
    rw[e1,e2]
    have:(TV.kp h (.list (.int q)) n off:TV S).er (s.rk q h2 h n o').ln=.kp h n off:=by
     show G.kp h n (off*1)=_
     rw[Nat.mul_one]
    rw[this]
    exact CV.refl _ _ _
   | _=>
    simp only[TV.rk,hv]
    exact CV.any _ _ _
 have hcvL:∀cs:List (TV S),CVL s1.st (s.rk q h2 h n o').er.st ((TV.er.go s.ln cs).map (rkG h2 h n)) (TV.er.go (s.rk q h2 h n o').ln (cs.map (TV.rk q h2 h n))):=by
  intro cs
  induction cs with
  | nil=>exact⟨rfl,fun j g' hg'=>by simp[TV.er.go] at hg'⟩
  | cons v r ih=>
   refine⟨by simp only[List.map_cons,TV.er.go,List.length_cons,ih.1],fun j g' hg'=>?_⟩
   simp only[List.map_cons,TV.er.go] at hg'⊢
   cases j with
   | zero=>cases hg';exact⟨_,rfl,hcv v⟩
   | succ j=>exact ih.2 j g' hg'
 refine⟨Gh.gen (fun d g' hg'=>?_) (fun x k' hk'=>?_) ?_,LInv_nil rfl,⟨rfl,rfl,rfl⟩⟩
 ·obtain⟨v',e1,rfl⟩:=get_erF' hg'
  rw[rk_frA hi] at e1
  obtain⟨v,e2,rfl⟩:=Option.map_eq_some_iff.1 e1
  refine⟨rkG h2 h n (v.er s.ln),?_,hcv v⟩
  rw[h1]
  exact get_rnFr_of (get_erF e2)
 ·obtain⟨o2,e1,rfl⟩:=sget_erS' hk'
  rw[rk_stA hi] at e1
  cases hb:Nat.beq h x with
  | true=>
   rw[hb] at e1
   cases e1
   have:=Nat.eq_of_beq_eq_true hb
   subst this
   refine⟨_,hst,?_⟩
   rw[hln (s.rk q h2 h n o').ln s.ln]
   exact BCV.refl _ _ _
  | false=>
   rw[hb] at e1
   simp only[cond_false] at e1
   cases hm:Nat.beq x h2 with
   | true=>rw[hm] at e1;cases e1
   | false=>
    rw[hm] at e1
    simp only[cond_false] at e1
    obtain⟨o3,e2,rfl⟩:=Option.map_eq_some_iff.1 e1
    refine⟨_,h3 x _ (fun e=>by subst e;rw[Nat.beq_refl] at hb;cases hb) (fun e=>by subst e;rw[Nat.beq_refl] at hm;cases hm) (sget_erS e2),?_⟩
    cases o3 with
    | box e m cs=>exact⟨rfl,id,rfl,rfl,rfl,(hcvL cs).1,.inr ⟨rfl,(hcvL cs).2⟩⟩
    | lp l n cs=>exact⟨rfl,id,rfl,rfl,rfl,(hcvL cs).1,.inr ⟨rfl,(hcvL cs).2⟩⟩
    | arr e m f τ l=>exact BCV.refl _ _ _
    | deep e m f dk τ a=>exact BCV.refl _ _ _
 ·rw[h4]
  show TV.er.go s.ln s.df=TV.er.go (s.rk q h2 h n o').ln s.df
  exact er_congrL _ fun k hk=>hag k fun hm=>by subst hm;rw[(inner_spec hi k List.mem_cons_self).2.1] at hk;cases hk
def allNilV:List (TV S)→Bool
 | []=>true
 | .val (.slice none 0 0)::r=>allNilV r
 | _::_=>false
theorem allNilV_ok (ln:Nat→Nat):∀{cs:List (TV S)},allNilV cs=true→TV.er.go ln cs=List.replicate cs.length (.val (.slice none 0 0))
 | [],_=>rfl
 | v::r,h=>by
  unfold allNilV at h
  split at h
  ·rename_i e
   cases e
  ·rename_i r' e
   cases e
   simp only[TV.er.go,allNilV_ok ln h,List.length_cons,List.replicate_succ]
   rfl
  ·cases h
def mput (d:MDat) (a b:Int) (n:Nat):MDat:=⟨d.n+1,d.es++[⟨a,b,d.n,List.replicate n (bigI,[])⟩],d.pd⟩
def mapPutC (P:Program) (ok:Nat→Bool) (s:TSt S) (t:TypeId) (x y z:Operand){A:Type}(k:TSt S→Option A):Option A:=
 match tev s x with
 | some (.mp h)=>match tev s z with
  | some (.loc h2 0)=>match ok h&&(ok h2&&(!(Nat.beq h2 h)&&inner s [h2])) with
   | true=>match oget s.st h with
    | some (.deep e m f (.map q kty tty) .map d)=>match oget s.st h2 with
     | some (.box e2 m2 cs)=>match m2&&(Nat.beq e2 tty&&allNilV cs) with
      | true=>match tev s y with
       | some vy=>match keyT q vy with
        | some (a,b)=>match P.underlying t with
         | some (.map kt et)=>match key2B P kt q with
          | true=>(chk (d.n+1≤maxLen∧mgN d.es a b=true)).bind fun _=>k (s.rk q h2 h d.n (.deep e m f (.map q kty tty) .map (mput d a b cs.length)))
          | false=>none
         | _=>none
        | none=>none
       | none=>none
      | false=>none
     | _=>none
    | _=>none
   | false=>none
  | _=>none
 | _=>none
theorem go_zero (q:IntKind) (n:Nat):(List.replicate n ((bigI,[]):Nat×List Int)).map (fun p=>(p.1,intG q p.2))=List.replicate n (bigI,[]):=by
 rw[List.map_replicate];rfl
def msrcF (z:Nat):List (Nat×List Int)→Nat→Option Nat
 | [],_=>none
 | (x,_)::r,j=>bif Nat.beq x z then some j else msrcF z r (j+1)
def msrc (z:Nat):List MEnt→Option (Nat×Nat)
 | []=>none
 | e::r=>match msrcF z e.f 0 with
  | some j=>some (e.t,j)
  | none=>msrc z r
def mapp (d:MDat) (z n:Nat) (x:Int) (bt:Nat):Option MDat:=
 (chk (d.pd.isNone=true∧d.n+1≤maxLen∧n+1≤maxLen∧(n+1)*bt≤140737488355328)).bind fun _=>
  match n with
  | 0=>(chk (z=bigI)).bind fun _=>some ⟨d.n+1,d.es,some (none,d.n,[x])⟩
  | _+1=>(msrc z d.es).bind fun p=>(mfld d.es p.1 p.2).bind fun q=>(chk (q.1=z∧q.2.length=n)).bind fun _=>some ⟨d.n+1,d.es,some (some p,d.n,q.2++[x])⟩
def msetF (es:List MEnt) (t j:Nat) (p:Nat×List Int):List MEnt:=es.map fun e=>bif Nat.beq e.t t then {e with f:=e.f.set j p} else e
def mstore (d:MDat) (t j z n:Nat):Option MDat:=
 match d.pd with
 | none=>none
 | some (sr,x,l)=>(chk (x=z∧List.length l=n∧(sr=none∨sr=some (t,j)))).bind fun _=>(mtgt d.es t).bind fun e=>(chk (j<e.f.length)).bind fun _=>some ⟨d.n,msetF d.es t j (x,l),none⟩
def isMapApp (s:TSt S):List Operand→Bool
 | [x,_]=>match tev s x with
  | some (.ks h _ _ _)=>match oget s.st h with
   | some (.deep _ _ _ (.map _ _ _) .map _)=>true
   | _=>false
  | _=>false
 | _=>false
def mapAppC (P:Program) (ok:Nat→Bool) (s:TSt S) (d:Nat) (c:Call){A:Type}(k:TSt S→Option A):Option A:=
 match c.args.toList,c.argTypes.toList with
 | [x,y],[t,t']=>match decEq t t' with
  | isFalse _=>none
  | isTrue _=>match P.underlying t with
   | some (.slice e0)=>match tev s x with
    | some (.ks h τ z n)=>match ok h with
     | false=>none
     | true=>match oget s.st h with
      | some (.deep e m f (.map q kty tty) .map dd)=>match decEq τ (.int q),decEq e0 kty with
       | isTrue _,isTrue _=>match tev s y with
        | some (.osl h3 _)=>match oget s.stA h3 with
         | some (.arr _ _ _ (.int q3) [v])=>match decEq q3 q with
          | isTrue _=>match P.info? e0 with
           | some i=>match i.zero with
            | some zv=>match decEq i.size 1,decEq zv.cells.size 1 with
             | isTrue _,isTrue _=>(mapp dd z n v i.bytes).bind fun dd'=>k ((s.set h (.deep e m f (.map q kty tty) .map dd')).put d (.ks h (.int q) dd.n (n+1)))
             | _,_=>none
            | none=>none
           | none=>none
          | isFalse _=>none
         | _=>none
        | _=>none
       | _,_=>none
      | _=>none
    | _=>none
   | _=>none
 | _,_=>none
def isMapSt (s:TSt S) (x:Operand):Bool:=match tev s x with
 | some (.kp h _ _ _)=>match oget s.st h with
  | some (.deep _ _ _ (.map _ _ _) .map _)=>true
  | _=>false
 | _=>false
def mapStC (P:Program) (ok:Nat→Bool) (s:TSt S) (t:TypeId) (x y:Operand){A:Type}(k:TSt S→Option A):Option A:=
 match tev s x with
 | some (.kp h (.list _) i j)=>match tev s y with
  | some (.ks h2 τ z n)=>match ok h with
   | false=>none
   | true=>match oget s.st h with
    | some (.deep e m f (.map q kty tty) .map dd)=>match decEq h2 h,decEq τ (.int q),decEq (sizP P t) (some 1) with
     | isTrue _,isTrue _,isTrue _=>(mstore dd i j z n).bind fun dd'=>k (s.set h (.deep e m f (.map q kty tty) .map dd'))
     | _,_,_=>none
    | _=>none
  | _=>none
 | _=>none
def allKs:List (TV S)→Bool
 | []=>true
 | .ks _ τ _ _::r=>(match τ with | .st _=>false | _=>true)&&allKs r
 | _::_=>false
def isKsB (s:TSt S) (parts:List (Nat×Operand)):Bool:=
 match parts with
 | []=>false
 | _=>match partsT s parts 0 with
  | some vs=>allKs vs
  | none=>false
def bslKs (P:Program) (s:TSt S) (d:Nat) (t:TypeId) (n:Nat) (parts:Array (Nat×Operand)){A:Type}(k:TSt S→Option A):Option A:=
 match s.free (s.hnd d) with
 | true=>match P.underlying t with
  | some (.slice e)=>match P.info? e with
   | some i=>match i.zero with
    | some _=>match decEq i.size 1 with
     | isTrue _=>match partsT s parts.toList 0 with
      | some (v::vs)=>match v with
       | .ks _ τ _ _=>match allKs (v::vs)&&(Nat.beq (vs.length+1) n&&(Nat.ble n 16777216&&!(TV.has.go (s.hnd d) (v::vs)))) with
        | true=>k ((s.add (s.hnd d) (.box e true (v::vs))).put d (.sub (s.hnd d) (.list τ) 0 n))
        | false=>none
       | _=>none
      | _=>none
     | isFalse _=>none
    | none=>none
   | none=>none
  | _=>none
 | false=>none
section
variable {P:Program}{W:List Nat}{s:TSt S}{ty:TypeId}{pos:String}{after:Array Edge}{guard:Option (Nat×Bool)}{A:Type}{k:TSt S→Option A}{r:A}
theorem mkMapC_ok {d:Nat}{t:TypeId}{n:Option Operand}(hl:LInv s) (h:mkMapC P s d t n k=some r):EfOk P W s ⟨some d,.makeMap t n,ty,pos,after,guard⟩ k r:=by
 unfold mkMapC at h
 split at h
 ·split at h
  ·rename_i hf
   split at h
   ·rename_i q kty tty _
    obtain⟨e1,_⟩:=add_er hf (.deep 0 true true (.map q kty tty) .map ⟨0,[],none⟩) rfl
    refine .one _ (EF.mkMap (s.hnd d) q kty tty (free_fresh hf)) ?_ ((hl.add _ hf).put _ _) ⟨rfl,rfl,rfl⟩ h
    rw[put_er,e1]
    exact Gh.refl _
   ·cases h
  ·cases h
 ·cases h
theorem mapPutC_ok {ok:Nat→Bool}(hokW:∀h,ok h=true→W.contains h=true){t:TypeId}{x y z:Operand}(hl:LInv s) (h:mapPutC P ok s t x y z k=some r):EfOk P W s ⟨none,.mapUpdate t x y z,ty,pos,after,guard⟩ k r:=by
 unfold mapPutC at h
 split at h
 ·rename_i hh hx
  split at h
  ·rename_i h2 hz
   split at h
   ·rename_i hc
    simp only[Bool.and_eq_true,Bool.not_eq_true'] at hc
    obtain⟨c1,c2,c3,c4⟩:=hc
    split at h
    ·rename_i e m f q kty tty dd ho
     split at h
     ·rename_i e2 m2 cs ho2
      split at h
      ·rename_i hb
       simp only[Bool.and_eq_true] at hb
       obtain⟨b1,b2,b3⟩:=hb
       split at h
       ·rename_i vy hy
        split at h
        ·rename_i a b hk
         split at h
         ·rename_i kt et hu
          split at h
          ·rename_i hK
           obtain⟨_,hck,h⟩:=bind_some h
           obtain⟨k1,k2⟩:=chk_spec hck
           have hy:=tev_ok hy
           rw[keyT_ok hk] at hy
           have hne:h2≠hh:=fun e=>by subst e;rw[Nat.beq_refl] at c3;cases c3
           have hno:kget (dd.es.map (MEnt.me q)) (a,b)=none:=by
            rw[kget_me]
            unfold mgN at k2
            cases hm:mget dd.es a b with
            | none=>rfl
            | some _=>rw[hm] at k2;cases k2
           have hs1:=sget_st (stA_of ho)
           have hs2:=sget_st (stA_of ho2)
           have hoE:(TO.deep e m f (.map q kty tty) .map (mput dd a b cs.length):TO S).er s.ln=⟨e,true,m,f,1,[],some (.deep (mapDp q kty tty (dd.n+1) (List.map (MEnt.me q) dd.es++[ME.mk (a,b) dd.n (List.replicate cs.length (bigI,[]))]) (pdG q dd.pd)))⟩:=by
            show Blk.mk _ _ _ _ _ _ (some (.deep (mapDp q kty tty (dd.n+1) (List.map (MEnt.me q) (dd.es++[MEnt.mk a b dd.n (List.replicate cs.length (bigI,[]))])) (pdG q dd.pd))))=_
            rw[List.map_append]
            simp only[List.map_cons,List.map_nil,MEnt.me,go_zero]
           obtain⟨g1,g2,g3⟩:=rk_ok (s:=s) (q:=q) (h:=hh) (h2:=h2) (n:=dd.n) (o':=.deep e m f (.map q kty tty) .map (mput dd a b cs.length))
            (s1:={fr:=rnFr (rkG h2 hh dd.n) s.er.fr,st:=sset (rnSt (rkG h2 hh dd.n) (sdel s.er.st h2)) hh ⟨e,true,m,f,1,[],some (.deep (mapDp q kty tty (dd.n+1) (List.map (MEnt.me q) dd.es++[ME.mk (a,b) dd.n (List.replicate cs.length (bigI,[]))]) (pdG q dd.pd)))⟩,df:=s.er.df})
            ho rfl (fun _ _=>rfl) c4 hne rfl (by rw[hoE,sget_sset_same (sget_rnSt_of (sget_sdel_of (Ne.symm hne) hs1))]) (fun x k0 hx1 hx2 h0=>by
             show sget (sset _ _ _) _=_
             rw[sget_sset_other hx1]
             exact sget_rnSt_of (sget_sdel_of hx2 h0)) rfl
           refine .one _ (EF.mapPut (q:=q) (kty:=kty) (tty:=tty) (n:=dd.n) (es:=dd.es.map (MEnt.me q)) (pd:=pdG q dd.pd) (ky:=(a,b)) (zf:=cs.length) (tev_ok hx) hy (tev_ok hz) c3 hs1 rfl hu (key2B_ok hK) hno hs2 rfl (Nat.eq_of_beq_eq_true b2) b1 (allNilV_ok _ b3) k1 (by rw[show s.er.df=TV.er.go s.ln s.df from rfl,dfNo_er,(inner_spec c4 h2 List.mem_cons_self).2.1];rfl) (hokW _ c1) (hokW _ c2)) g1 g2 g3 h
          ·cases h
         ·cases h
        ·cases h
       ·cases h
      ·cases h
     ·cases h
    ·cases h
   ·cases h
  ·cases h
 ·cases h
theorem intG_app (q:IntKind) (l:List Int) (x:Int):intG q (l++[x])=intG q l++[.val (.int q x)]:=by simp[intG]
theorem intG_nil {q:IntKind}{l:List Int}(h:l≠[]):intG q l≠[]:=by
 intro e
 apply h
 cases l with
 | nil=>rfl
 | cons a r=>cases e
theorem mapAppC_ok {ok:Nat→Bool}(hokW:∀h,ok h=true→W.contains h=true){d:Nat}{args:Array Operand}{ts:Array TypeId}(hl:LInv s) (h:mapAppC P ok s d ⟨.builtin .append,args,ts⟩ k=some r):
  EfOk P W s ⟨some d,.call ⟨.builtin .append,args,ts⟩,ty,pos,after,guard⟩ k r:=by
 unfold mapAppC at h
 dsimp only at h
 split at h
 ·rename_i x y t t' h1 h2
  have h1:=toList2 h1
  have h2:=toList2 h2
  subst h1;subst h2
  split at h
  ·cases h
  ·rename_i e1 _
   subst e1
   split at h
   ·rename_i e0 hu
    split at h
    ·rename_i hh τ z n hx
     split at h
     ·cases h
     ·rename_i hW
      split at h
      ·rename_i e m f q kty tty dd ho
       split at h
       ·rename_i e1 e2 _ _
        subst e1;subst e2
        split at h
        ·rename_i h3 τ3 hy
         split at h
         ·rename_i e3 m3 f3 q3 v ho3
          split at h
          ·rename_i e1 _
           subst e1
           split at h
           ·rename_i i hi
            split at h
            ·rename_i zv hz
             split at h
             ·rename_i i1 i2 _ _
              obtain⟨dd',hd,h⟩:=bind_some h
              unfold mapp at hd
              obtain⟨_,hck,hd⟩:=bind_some hd
              obtain⟨k1,k2,k3,k4⟩:=chk_spec hck
              have hpd:dd.pd=none:=by
               cases hp:dd.pd with
               | none=>rfl
               | some _=>rw[hp] at k1;cases k1
              have ho':=sget_st (stA_of ho)
              have ho3':=sget_st ho3
              have hinfo:(P.info? e0).map (fun i=>(i.zero,i.size,i.bytes))=some (some zv,1,i.bytes):=by rw[hi,Option.map_some,hz,i1]
              have hln3:s.ln h3=1:=ln_arr ho3
              have hsrc:∃(l:List Int) (sr:Option (Nat×Nat)),n=l.length∧dd'=⟨dd.n+1,dd.es,some (sr,dd.n,l++[v])⟩∧((z=bigI∧intG q3 l=[]∧sr=none)∨(intG q3 l≠[]∧∃tt j e,sr=some (tt,j)∧tgt (dd.es.map (MEnt.me q3)) tt=some e∧e.f[j]?=some (z,intG q3 l))):=by
               split at hd
               ·obtain⟨_,hck,hd⟩:=bind_some hd
                cases hd
                exact⟨[],none,rfl,rfl,.inl ⟨chk_spec hck,rfl,rfl⟩⟩
               ·rename_i n'
                obtain⟨p,q1,hd⟩:=bind_some hd
                obtain⟨qq,q2,hd⟩:=bind_some hd
                obtain⟨_,hck,hd⟩:=bind_some hd
                obtain⟨c1,c2⟩:=chk_spec hck
                cases hd
                obtain⟨z',l⟩:=qq
                dsimp only at c1 c2
                subst c1
                obtain⟨e',r1,r2⟩:=mfld_ok q2 q3
                refine⟨l,some p,c2.symm,rfl,.inr ⟨intG_nil (by intro e;subst e;cases c2),p.1,p.2,e',rfl,r1,r2⟩⟩
              obtain⟨l,sr,hn,hdd,hsr⟩:=hsrc
              subst hn;subst hdd
              obtain⟨e2,e3⟩:=set_er (s:=s) (o':=.deep e m f (.map q3 e0 tty) .map ⟨dd.n+1,dd.es,some (sr,dd.n,l++[v])⟩) ho rfl
              have hil:(intG q3 l).length=l.length:=intG_len q3 l
              have hoE:sget s.er.st hh=some ⟨e,true,m,f,1,[],some (.deep (mapDp q3 e0 tty dd.n (dd.es.map (MEnt.me q3)) none))⟩:=by
               rw[ho']
               show some (Blk.mk _ _ _ _ _ _ (some (.deep (mapDp q3 e0 tty dd.n (dd.es.map (MEnt.me q3)) (pdG q3 dd.pd)))))=_
               rw[hpd];rfl
              have:=EF.mapApp (P:=P) (W:=W) (ty:=ty) (pos:=pos) (after:=after) (guard:=guard) (s:=s.er) (d:=d) (t:=t) (e0:=e0) (x:=x) (y:=y) (h:=hh) (z:=z) (n:=dd.n) (bt:=i.bytes) (q:=q3) (kty:=e0) (tty:=tty) (es:=dd.es.map (MEnt.me q3)) (sr:=sr) (gs:=intG q3 l)
               (gy:=.osl h3 (S.sz τ3) 0 1) (v0:=.int q3 v) (f:=f3) (zv:=zv) (by rw[tev_ok hx,hil];rfl) (by rw[tev_ok hy];show some (G.osl h3 _ 0 (s.ln h3))=_;rw[hln3]) hoE rfl hsr (by simp only[gsrc,ho3'];rfl) rfl rfl hu hinfo i2 k2 (by rw[hil];exact k3) (by rw[hil];exact k4) (hokW _ hW)
              refine .one _ this ?_ ((hl.set ho _).put _ _) ⟨rfl,rfl,rfl⟩ h
              rw[put_er,e2]
              rw[hil]
              have hpg:pdG q3 (some (sr,dd.n,l++[v]))=some (sr,dd.n,intG q3 l++[.val (.int q3 v)]):=by
               show some (sr,dd.n,intG q3 (l++[v]))=_
               rw[intG_app]
              have hE2:(TO.deep e m f (.map q3 e0 tty) .map ⟨dd.n+1,dd.es,some (sr,dd.n,l++[v])⟩:TO S).er s.ln=⟨e,true,m,f,1,[],some (.deep (mapDp q3 e0 tty (dd.n+1) (dd.es.map (MEnt.me q3)) (some (sr,dd.n,intG q3 l++[.val (.int q3 v)]))))⟩:=by
               rw[←hpg];rfl
              rw[hE2]
              exact Gh.refl _
             ·cases h
            ·cases h
           ·cases h
          ·cases h
         ·cases h
        ·cases h
       ·cases h
      ·cases h
    ·cases h
   ·cases h
 ·cases h
theorem setF_me (q:IntKind) (t j z:Nat) (l:List Int):∀es:List MEnt,setF (es.map (MEnt.me q)) t j (z,intG q l)=(msetF es t j (z,l)).map (MEnt.me q)
 | []=>rfl
 | e::r=>by
  have ih:=setF_me q t j z l r
  simp only[setF,msetF,List.map_cons] at ih⊢
  rw[ih]
  congr 1
  show(bif Nat.beq e.t t then _ else _)=MEnt.me q (bif Nat.beq e.t t then _ else _)
  cases Nat.beq e.t t with
  | true=>
   show ME.mk _ _ _=ME.mk _ _ _
   congr 1
   show(e.f.map _).set j _=(e.f.set j (z,l)).map _
   rw[List.map_set]
  | false=>rfl
theorem mapStC_ok {ok:Nat→Bool}(hokW:∀h,ok h=true→W.contains h=true){t:TypeId}{x y:Operand}(hl:LInv s) (h:mapStC P ok s t x y k=some r):EfOk P W s ⟨none,.store t x y,ty,pos,after,guard⟩ k r:=by
 unfold mapStC at h
 split at h
 ·rename_i hh τ0 i j hx
  split at h
  ·rename_i h2 τ z n hy
   split at h
   ·cases h
   ·rename_i hW
    split at h
    ·rename_i e m f q kty tty dd ho
     split at h
     ·rename_i e1 e2 hsz _ _ _
      subst e1;subst e2
      obtain⟨dd',hd,hk0⟩:=bind_some h
      unfold mstore at hd
      split at hd
      ·cases hd
      ·rename_i sr x' l hp
       obtain⟨_,hck,hd⟩:=bind_some hd
       obtain⟨c1,c2,c3⟩:=chk_spec hck
       obtain⟨e',q1,hd⟩:=bind_some hd
       obtain⟨_,hck,hd⟩:=bind_some hd
       have c4:=chk_spec hck
       cases hd
       subst c1;subst c2
       have ho':=sget_st (stA_of ho)
       obtain⟨e2,e3⟩:=set_er (s:=s) (o':=.deep e m f (.map q kty tty) .map ⟨dd.n,msetF dd.es i j (x',l),none⟩) ho rfl
       have hoE:sget s.er.st h2=some ⟨e,true,m,f,1,[],some (.deep (mapDp q kty tty dd.n (dd.es.map (MEnt.me q)) (some (sr,x',intG q l))))⟩:=by
        rw[ho']
        show some (Blk.mk _ _ _ _ _ _ (some (.deep (mapDp q kty tty dd.n (dd.es.map (MEnt.me q)) (pdG q dd.pd)))))=_
        rw[hp];rfl
       have:=EF.mapSt (P:=P) (W:=W) (ty:=ty) (pos:=pos) (after:=after) (guard:=guard) (s:=s.er) (t:=t) (x:=x) (y:=y) (h:=h2) (tt:=i) (j:=j) (z:=x') (n:=dd.n) (sr:=sr) (q:=q) (kty:=kty) (tty:=tty) (es:=dd.es.map (MEnt.me q)) (e:=MEnt.me q e') (gs:=intG q l)
        (by rw[tev_ok hx];show some (G.kp h2 i (j*1))=_;rw[Nat.mul_one]) (by rw[tev_ok hy,intG_len];rfl) hoE rfl c3 (by rw[tgt_me,q1];rfl) (by show j<(e'.f.map _).length;rw[List.length_map];exact c4) (sizP_ok hsz) (hokW _ hW)
       refine .one _ this ?_ (hl.set ho _) ⟨rfl,rfl,rfl⟩ hk0
       rw[e2,setF_me]
       exact Gh.refl _
     ·cases h
    ·cases h
  ·cases h
 ·cases h
theorem Gh.sz0 {fr:List (Nat×G)}{r:List (Nat×Blk)}{df:List G}{h:Nat}{e:TypeId}{p m f:Bool}{n:Nat}{cs:List G}:
  Gh ⟨fr,(h,⟨e,p,m,f,n,cs,none⟩)::r,df⟩ ⟨fr,(h,⟨e,p,m,f,0,cs,none⟩)::r,df⟩:=by
 have hg:∀x k',sget ((h,(⟨e,p,m,f,0,cs,none⟩:Blk))::r) x=some k'→∃k,sget ((h,(⟨e,p,m,f,n,cs,none⟩:Blk))::r) x=some k∧(k'=k∨(k'=⟨e,p,m,f,0,cs,none⟩∧k=⟨e,p,m,f,n,cs,none⟩)):=by
  intro x k' hk
  simp only[sget] at hk⊢
  cases hb:Nat.beq h x with
  | true=>rw[hb] at hk;cases hk;exact⟨_,rfl,.inr ⟨rfl,rfl⟩⟩
  | false=>rw[hb] at hk;exact⟨_,hk,.inl rfl⟩
 refine Gh.of (fun N cx μ a w hr=>?_) fun x k' hk=>let ⟨k,h1,_⟩:=hg x k' hk;⟨k,h1⟩
 have hO:∀b,b<w.heap.size→¬cx.O ((h,(⟨e,p,m,f,n,cs,none⟩:Blk))::r) μ b→¬cx.O ((h,(⟨e,p,m,f,0,cs,none⟩:Blk))::r) μ b:=fun b _ hn ho=>hn (ho.imp id fun ⟨x,k,c,mm,h1,h2,hi⟩=>let ⟨k0,h3,_⟩:=hg x k h1;⟨x,k0,c,mm,h3,h2,hi⟩)
 refine {st:={blk:=?_,injF:=?_,outF:=?_,pin:=?_,xlt:=hr.st.xlt,hb:=hr.st.hb,os:=hr.st.os,tape:=hr.st.tape,output:=hr.st.output,gl:=hr.st.gl,keep:=hr.st.keep},nd:=hr.nd.mono (Kept.refl _ _) hO,sz:=hr.sz,fr:=fun d g' hg'=>let ⟨v,h1,h2⟩:=hr.fr d g' hg';⟨v,h1,h2.mono (Kept.refl _ _) hO (Nat.le_refl _)⟩}
 ·intro x k' hk
  obtain⟨k,h1,h2⟩:=hg x k' hk
  have hb:=(hr.st.blk x k h1).mono (fun _ _ _ _ _=>rfl) (Kept.refl _ _) hO
  rcases h2 with h2 | ⟨h2,h3⟩
  ·rw[h2];exact hb
  ·subst h2;subst h3
   cases hm:μ x with
   | none=>rw[hm] at hb;exact hb.nilAny rfl rfl rfl
   | some bm=>
    obtain⟨b,mm⟩:=bm
    rw[hm] at hb
    obtain⟨cs,q1,q2,q3,q4,q5,q6⟩:=hb.cells rfl
    exact .mk rfl (hb.nokid rfl) ⟨cs,q1,q2,q3,q4,fun h0=>absurd rfl h0,q6⟩
 ·intro x x' k1 k2 y b m b' m' h1 h2
  obtain⟨k1',h1',_⟩:=hg x k1 h1
  obtain⟨k2',h2',_⟩:=hg x' k2 h2
  exact hr.st.injF x x' k1' k2' y b m b' m' h1' h2'
 ·intro x k1 b m y h1 h2 hi
  obtain⟨k,hk,c⟩:=hg x k1 h1
  obtain⟨a1,a2,a3,a4⟩:=hr.st.outF x k b m y hk h2 hi
  refine⟨a1,a2,a3,fun hm=>a4 ?_⟩
  rcases c with c | ⟨c,c'⟩
  ·rw[←c];exact hm
  ·subst c;subst c';exact hm
 ·intro x k1 h1 h2
  obtain⟨k1',h1',_⟩:=hg x k1 h1
  exact hr.st.pin x k1' h1' h2
theorem allKs_ok (ln:Nat→Nat):∀{vs:List (TV S)},allKs vs=true→okCells 1 (TV.er.go ln vs)=true∧(TV.er.go ln vs).flatMap gcells=TV.er.go ln vs
 | [],_=>⟨rfl,rfl⟩
 | v::r,h=>by
  unfold allKs at h
  split at h
  ·rename_i e;cases e
  ·rename_i τ _ _ r' e
   cases e
   simp only[Bool.and_eq_true] at h
   obtain⟨i1,i2⟩:=allKs_ok ln h.2
   simp only[TV.er.go,TV.er,okCells,List.flatMap_cons,i2]
   refine⟨?_,rfl⟩
   rw[i1];rfl
  ·cases h
theorem bslKs_ok {d:Nat}{t:TypeId}{n:Nat}{parts:Array (Nat×Operand)}(hl:LInv s) (h:bslKs P s d t n parts k=some r):EfOk P W s ⟨some d,.buildSlice t n parts,ty,pos,after,guard⟩ k r:=by
 unfold bslKs at h
 split at h
 ·rename_i hf
  split at h
  ·rename_i e hu
   split at h
   ·rename_i i hi
    split at h
    ·rename_i z hz
     split at h
     ·rename_i hs _
      split at h
      ·rename_i v vs hv
       split at h
       ·rename_i h0 τ i0 n0
        split at h
        ·rename_i hc
         simp only[Bool.and_eq_true,Bool.not_eq_true'] at hc
         obtain⟨c1,c2,c3,c4⟩:=hc
         have c2:=Nat.eq_of_beq_eq_true c2
         have c3:=Nat.le_of_ble_eq_true c3
         have hinfo:(P.info? e).map (fun i=>(i.zero,i.size,i.bytes))=some (some z,1,i.bytes):=by rw[hi,Option.map_some,hz,hs]
         obtain⟨i1,i2⟩:=allKs_ok s.ln c1
         obtain⟨e1,_⟩:=add_er hf (.box e true (.ks h0 τ i0 n0::vs)) c4
         refine .one _ (EF.buildSlice (sz:=1) (z:=z) (bt:=i.bytes) (s.hnd d) (gs:=TV.er.go s.ln (.ks h0 τ i0 n0::vs)) (partsT_ok hv) (by rw[er_go,List.length_map,List.length_cons,c2]) hu hinfo (by omega) (by omega) i1 (free_fresh hf)) ?_ ((hl.add _ hf).put _ _) ⟨rfl,rfl,rfl⟩ h
         rw[put_er,e1,i2]
         show Gh _ ⟨(d,.osl (s.hnd d) 1 (0*1) n)::s.er.fr,_,_⟩
         exact Gh.sz0
        ·cases h
       ·cases h
      ·cases h
     ·cases h
    ·cases h
   ·cases h
  ·cases h
 ·cases h
end
end
end Go.DN
/-
 DN,part L:regions.
-/
namespace Go.DN
open Go.AM
section
variable {S:Sig}
def isY (s:TSt S) (c:Call):Bool:=
 match c.callee with
 | .value x=>match tev s x with
  | some (.yld _)=>true
  | _=>false
 | _=>false
def yOp (s:TSt S):Op→Option Call
 | .call c=>match isY s c with
  | true=>some c
  | false=>none
 | _=>none
def famPart (s:TSt S):List (Nat×Operand)→Bool
 | [(_,x)]=>match tev s x with
  | some (.osl h τ)=>match τ.scal with
   | true=>match oget s.st h with
    | some (.arr _ m _ _ _)=>m
    | _=>false
   | false=>false
  | _=>false
 | _=>false
def deepO (s:TSt S):List Operand→List Nat
 | []=>[]
 | x::r=>match tev s x with
  | some (.osl h _)=>match isDeep s h with
   | true=>h::deepO s r
   | false=>deepO s r
  | _=>deepO s r
def subCell (s:TSt S) (x:Operand):Bool:=match tev s x with
 | some (.loc h off)=>match oget s.st h with
  | some (.box _ _ cs)=>match cs[off]? with
   | some (.sub _ _ _ _)=>true
   | _=>false
  | _=>false
 | _=>false
noncomputable def efC (P:Program) (ok:Nat→Bool){A:Type}(cl:TSt S→Option Nat→Call→(TSt S→Option A)→Option A) (s:TSt S) (dst:Option Nat) (op:Op) (k:TSt S→Option A):Option A:=
 match dst with
 | some d=>match op with
  | .box t x=>boxC s d t x k
  | .alloc t=>allocC P s d t k
  | .makeSlice t x y=>match isRowMk S P t with
   | true=>mkRowsC P s d t x y k
   | false=>makeC P s d t x y k
  | .load t x=>rowOutC P ok s d t x k
  | .makeMap t n=>mkMapC P s d t n k
  | .buildSlice t n parts=>match S.fam&&famPart s parts.toList with
   | true=>famBslC P ok s d t n parts k
   | false=>match isKsB s parts.toList with
    | true=>bslKs P s d t n parts k
    | false=>match fzAll (oslsO s (parts.toList.map (·.2))) s with
    | some s'=>bslC P s' d t n parts k
    | none=>none
  | .binOp op t x y _=>nilC P s d op t x y k
  | .call c=>match c.callee with
   | .builtin .append=>match c.args.toList with
    | x::r=>match isApIn s (x::r) with
     | true=>appInC P ok s d c k
     | false=>match isMapApp s (x::r) with
      | true=>mapAppC P ok s d c k
      | false=>match deepO s [x] with
      | []=>match fzAll (deepO s r) s with
       | some s=>truncC s x fun s'=>appC P ok s' d c k
       | none=>none
      | _=>famAppC P ok s d c k
    | []=>none
   | .builtin .copy=>copyC P ok s d c k
   | .value _=>match isY s c with
    | true=>none
    | false=>cl s (some d) c k
   | _=>none
  | _=>none
 | none=>match op with
  | .store t x y=>match tev s x with
   | some (.elt h _ _ _)=>match isDeep s h with
    | true=>match isRows s h with
     | true=>rowInC P ok s t x y k
     | false=>famStC P ok s t x y k
    | false=>match fzAll (oslsO s [y]) s with
     | some s'=>storeC P ok s' t x y k
     | none=>none
   | _=>match isMapSt s x with
    | true=>mapStC P ok s t x y k
    | false=>match subCell s x with
     | true=>storeC P ok s t x y k
     | false=>truncC s y fun s'=>storeC P ok s' t x y k
  | .mapUpdate t x y z=>mapPutC P ok s t x y z k
  | .call c=>match c.callee with
   | .builtin .clear=>clearC P ok s c k
   | .value _=>match isY s c with
    | true=>none
    | false=>cl s none c k
   | _=>none
  | _=>none
def isEf:Op→Bool
 | .box _ _=>true
 | .alloc _=>true
 | .makeSlice _ _ _=>true
 | .buildSlice _ _ _=>true
 | .store _ _ _=>true
 | .makeMap _ _=>true
 | .mapUpdate _ _ _ _=>true
 | .binOp op _ _ y _=>match op with
  | .eql=>match y with
   | .const (.slice none 0 0)=>true
   | _=>false
  | .neq=>match y with
   | .const (.slice none 0 0)=>true
   | _=>false
  | _=>false
 | .call c=>match c.callee with
  | .builtin .append=>true
  | .builtin .copy=>true
  | .builtin .clear=>true
  | .value _=>true
  | _=>false
 | _=>false
def isLd:Op→Bool
 | .load _ _=>true
 | .lookup _ _ _ _=>true
 | _=>false
def dstN (N:Nat):Option Nat→Bool
 | some d=>Nat.blt d N
 | none=>true
def isEfS (s:TSt S) (op:Op):Bool:=isEf op||isRowLd s op
noncomputable def opC (P:Program) (N:Nat) (ok:Nat→Bool){A:Type}(cl:TSt S→Option Nat→Call→(TSt S→Option A)→Option A) (s:TSt S) (o:Oper) (k:TSt S→Option A):Option A:=
 match dstN N o.dst with
 | true=>match isEfS s o.op with
  | true=>efC P ok cl s o.dst o.op k
  | false=>match o.dst with
   | some d=>match isLd o.op with
    | true=>ylC P [] s o.op fun v=>k (s.put d v)
    | false=>pyC P s o.op fun v x=>k (s.putL d v x)
   | none=>none
 | false=>none
def skipT (N:Nat) (s:TSt S) (o:Oper):Option (TSt S):=
 match o.dst with
 | some d=>match Nat.blt d N with
  | true=>some (s.put d (.tup []))
  | false=>none
 | none=>some {s with fr:=s.fr}
noncomputable def regL (P:Program) (N:Nat) (ok:Nat→Bool) (ops:List Oper){A:Type}(cl:TSt S→Option Nat→Call→(TSt S→Option A)→Option A):List Oper→TSt S→(TSt S→Option A)→Option A
 | [],s,k=>k s
 | o::r,s,k=>match o.guard with
  | none=>match yOp s o.op with
   | some c=>cl s o.dst c fun s'=>regL P N ok ops cl r s' k
   | none=>opC P N ok cl s o fun s'=>regL P N ok ops cl r s' k
  | some (j,want)=>match ops[j]? with
   | some oj=>match oj.dst with
    | some d=>match tget s.frA d with
     | some (.dat _ .bool b)=>match want with
      | true=>cond b (opC P N ok cl (s.put d (.dat true .bool true)) o fun s'=>regL P N ok ops cl r s' k)
       (match skipT N (s.put d (.dat true .bool false)) o with | some s'=>regL P N ok ops cl r s' k | none=>none)
      | false=>cond b (match skipT N (s.put d (.dat true .bool true)) o with | some s'=>regL P N ok ops cl r s' k | none=>none)
       (opC P N ok cl (s.put d (.dat true .bool false)) o fun s'=>regL P N ok ops cl r s' k)
     | some (.tup [])=>match skipT N s o with
      | some s'=>regL P N ok ops cl r s' k
      | none=>none
     | _=>none
    | none=>none
   | none=>none
section
variable {P:Program}{N:Nat}{cx:Cx}{Q:Exit→St→Prop}{W:List Nat}{ok:Nat→Bool}{A:Type}{cl:TSt S→Option Nat→Call→(TSt S→Option A)→Option A}{r:A}
def EfOkP (P:Program) (W:List Nat) (s:TSt S) (o:Oper){A:Type}(k:TSt S→Option A) (kp:List PanicEntry→TSt S→Option A) (r:A):Prop:=
 ∃(T:St→Prop) (Tp:List PanicEntry→St→Prop),EffectP P W s.er o T Tp∧(∀s',T s'→∃t:TSt S,Gh s' t.er∧LInv t∧Keep s t∧k t=some r)∧∀ch s',Tp ch s'→∃t:TSt S,Gh s' t.er∧LInv t∧Keep s t∧kp ch t=some r
theorem EfOk.p {s:TSt S}{o:Oper}{k:TSt S→Option A}{kp:List PanicEntry→TSt S→Option A}(h:EfOk P W s o k r):EfOkP P W s o k kp r:=
 let ⟨T,h1,h2⟩:=h
 ⟨T,_,h1.p,h2,fun _ _ h=>h.elim⟩
theorem EffectP.tell {s:St}{o:Oper}{T:St→Prop}{Tp Tp':List PanicEntry→St→Prop}(h:EffectP P W s o T Tp) (ht:∀ch s',Tp ch s'→∃t,Gh s' t∧Tp' ch t):EffectP P W s o T Tp':=
 ⟨h.1,fun N cx μ a w hr hN K Q hK hp=>h.2 N cx μ a w hr hN K Q hK fun ch μ' s' w' hr' hT=>by
  obtain⟨t,h1,h2⟩:=ht ch s' hT
  obtain⟨μ2,h3,_⟩:=h1 N cx μ' a w' hr'
  exact hp ch μ2 t w' h3 h2⟩
def ClOk (P:Program) (N:Nat) (W:List Nat){A:Type}(cl:TSt S→Option Nat→Call→(TSt S→Option A)→Option A) (kp:List PanicEntry→TSt S→Option A) (r:A):Prop:=
 ∀(s:TSt S) (dst:Option Nat) (c:Call) (k:TSt S→Option A),LInv s→isY s c=false→cl s dst c k=some r→∀(ty:TypeId) (pos:String) (after:Array Edge) (guard:Option (Nat×Bool)),EfOkP P W s ⟨dst,.call c,ty,pos,after,guard⟩ k kp r
def ClOk0 (P:Program) (N:Nat) (W:List Nat){A:Type}(cl:TSt S→Option Nat→Call→(TSt S→Option A)→Option A) (r:A):Prop:=
 ∀(s:TSt S) (dst:Option Nat) (c:Call) (k:TSt S→Option A),LInv s→isY s c=false→cl s dst c k=some r→∀(ty:TypeId) (pos:String) (after:Array Edge) (guard:Option (Nat×Bool)),EfOk P W s ⟨dst,.call c,ty,pos,after,guard⟩ k r
theorem ClOk0.p {kp:List PanicEntry→TSt S→Option A}(h:ClOk0 P N W cl r):ClOk P N W cl kp r:=fun s dst c k a b d ty pos after guard=>(h s dst c k a b d ty pos after guard).p
def YlOk (P:Program) (N:Nat){A:Type}(cl:TSt S→Option Nat→Call→(TSt S→Option A)→Option A) (r:A):Prop:=
 ∀(cx:Cx) (s:TSt S) (dst:Option Nat) (c:Call) (k:TSt S→Option A),LInv s→isY s c=true→cl s dst c k=some r→∀(ty:TypeId) (pos:String) (after:Array Edge) (ops:Array Oper) (rest:List Oper) (Q:Exit→St→Prop),
  (∀t:TSt S,LInv t→Keep s t→k t=some r→GL P N cx ops Q rest t.er)→GL P N cx ops Q (⟨dst,.call c,ty,pos,after,none⟩::rest) s.er
theorem yOp_some {s:TSt S}{op:Op}{c:Call}(h:yOp s op=some c):op=.call c∧isY s c=true:=by
 unfold yOp at h
 split at h
 ·split at h
  ·rename_i hy;cases h;exact⟨rfl,hy⟩
  ·cases h
 ·cases h
theorem efC_ok (hokW:∀h,ok h=true→W.contains h=true){kp:List PanicEntry→TSt S→Option A}(hcl:ClOk P N W cl kp r){s:TSt S}{o:Oper}{k:TSt S→Option A}(hl:LInv s) (h:efC P ok cl s o.dst o.op k=some r):EfOkP P W s o k kp r:=by
 obtain⟨dst,op,ty,pos,after,guard⟩:=o
 unfold efC at h
 dsimp only at h
 split at h
 ·split at h
  ·exact(boxC_ok hl h).p
  ·exact(allocC_ok hl h).p
  ·split at h
   ·exact(mkRowsC_ok hl h).p
   ·exact(makeC_ok hl h).p
  ·exact(rowOutC_ok hokW hl h).p
  ·exact(mkMapC_ok hl h).p
  ·split at h
   ·exact(famBslC_ok hokW hl h).p
   ·split at h
    ·exact(bslKs_ok hl h).p
    ·split at h
     ·rename_i s' hz
      obtain⟨a1,a2,a3⟩:=fzAll_ok hl hz
      exact(EfOk.gh a1 a3 (bslC_ok a2 h)).p
     ·cases h
  ·exact(nilC_ok hl h).p
  ·rename_i c
   obtain⟨cal,args,ts⟩:=c
   dsimp only at h
   split at h
   ·split at h
    ·split at h
     ·exact(appInC_ok hokW hl h).p
     ·split at h
      ·exact(mapAppC_ok hokW hl h).p
      ·split at h
       ·split at h
        ·rename_i s1 hz
         obtain⟨b1,b2,b3⟩:=fzAll_ok hl hz
         obtain⟨t,a1,a2,a3,a4⟩:=truncC_ok b2 h
         exact(EfOk.gh b1 b3 (EfOk.gh a1 a3 (appC_ok hokW a2 a4))).p
        ·cases h
       ·exact(famAppC_ok hokW hl h).p
    ·cases h
   ·exact(copyC_ok hokW hl h).p
   ·split at h
    ·cases h
    ·rename_i hy;exact hcl _ _ _ _ hl hy h _ _ _ _
   ·cases h
  ·cases h
 ·split at h
  ·split at h
   ·split at h
    ·split at h
     ·exact(rowInC_ok hokW hl h).p
     ·exact(famStC_ok hokW hl h).p
    ·split at h
     ·rename_i s' hz
      obtain⟨a1,a2,a3⟩:=fzAll_ok hl hz
      exact(EfOk.gh a1 a3 (storeC_ok hokW a2 h)).p
     ·cases h
   ·split at h
    ·exact(mapStC_ok hokW hl h).p
    ·split at h
     ·exact(storeC_ok hokW hl h).p
     ·obtain⟨t,a1,a2,a3,a4⟩:=truncC_ok hl h
      exact(EfOk.gh a1 a3 (storeC_ok hokW a2 a4)).p
  ·exact(mapPutC_ok hokW hl h).p
  ·rename_i c
   obtain⟨cal,args,ts⟩:=c
   dsimp only at h
   split at h
   ·exact(clearC_ok hokW hl h).p
   ·split at h
    ·cases h
    ·rename_i hy;exact hcl _ _ _ _ hl hy h _ _ _ _
   ·cases h
  ·cases h
theorem opC_GL (hokW:∀h,ok h=true→W.contains h=true){kp:List PanicEntry→TSt S→Option A}(hcl:ClOk P N W cl kp r){s:TSt S}{ops:Array Oper}{rest:List Oper}{o:Oper}{k:TSt S→Option A}(hl:LInv s) (hw:wants ops s.er o.guard=some true)
  (h:opC P N ok cl s o k=some r) (hk:∀t:TSt S,LInv t→Keep s t→k t=some r→GL P N cx ops Q rest t.er)
  (hkp:∀ch (t:TSt S),LInv t→Keep s t→kp ch t=some r→∃u,Gh t.er u∧Q (.panic ch) u):GL P N cx ops Q (o::rest) s.er:=by
 unfold opC at h
 split at h
 ·rename_i hd
  split at h
  ·obtain⟨T,Tp,he,hT,hTp⟩:=efC_ok hokW hcl hl h
   refine GL.effectP (Tp:=fun ch u=>Q (.panic ch) u) hw (fun d e=>?_) (EffectP.tell he fun ch s' ht=>?_) (fun s' ht=>?_) fun _ _ h=>h
   ·rw[e] at hd;simpa[dstN,Nat.blt_eq] using hd
   ·obtain⟨t,h1,h2,h3,h4⟩:=hTp ch s' ht
    obtain⟨u,h5,h6⟩:=hkp ch t h2 h3 h4
    exact⟨u,h1.trans h5,h6⟩
   ·obtain⟨t,h1,h2,h3,h4⟩:=hT s' ht
    exact GL.gh h1 (hk t h2 h3 h4)
  ·split at h
   ·rename_i d e
    obtain⟨dst,op,ty,pos,after,guard⟩:=o
    dsimp only at e h hd
    subst e
    have hN:d<N:=by simpa[dstN,Nat.blt_eq] using hd
    split at h
    ·obtain⟨v,h1,h2⟩:=ylC_ok (dst:=some d) (ty:=ty) (pos:=pos) (after:=after) (guard:=guard) hl h
     exact GL.yield hw rfl hN h1 (hk _ (hl.put d v) ⟨rfl,rfl,rfl⟩ h2)
    ·obtain⟨v,x,h1,h2,h3⟩:=pyC_ok (dst:=some d) (ty:=ty) (pos:=pos) (after:=after) (guard:=guard) h
     refine GL.yield hw rfl hN (h1.yield []) ?_
     rw[←putL_er s d v x]
     exact hk _ (putL_ok hl d h2) (putL_keep s d v x) h3
   ·cases h
 ·cases h
theorem skipT_GL {s t:TSt S}{ops:Array Oper}{rest:List Oper}{o:Oper}(hl:LInv s) (hw:wants ops s.er o.guard=some false) (h:skipT N s o=some t) (hk:LInv t→Keep s t→GL P N cx ops Q rest t.er):GL P N cx ops Q (o::rest) s.er:=by
 unfold skipT at h
 obtain⟨dst,op,ty,pos,after,guard⟩:=o
 dsimp only at h
 split at h
 ·split at h
  ·rename_i hN
   cases h
   exact GL.nou hw hN (hk (hl.put _ _) ⟨rfl,rfl,rfl⟩)
  ·cases h
 ·cases h
  refine GL.pass hw ?_
  exact hk hl ⟨rfl,rfl,rfl⟩
theorem wants_lit {ops:List Oper}{s:TSt S}{j d:Nat}{want b:Bool}{oj:Oper}(h1:ops[j]?=some oj) (h2:oj.dst=some d) (h3:tget s.frA d=some (.dat true .bool b)):wants ops.toArray s.er (some (j,want))=some (b==want):=by
 have:get s.er.fr d=some (.val (.bool b)):=by rw[show get s.er.fr d=_ from get_erF h3];exact congrArg some (datG_bool true b)
 simp[wants,h1,h2,this]
theorem wants_tup {ops:List Oper}{s:TSt S}{j d:Nat}{want:Bool}{oj:Oper}(h1:ops[j]?=some oj) (h2:oj.dst=some d) (h3:tget s.frA d=some (.tup [])):wants ops.toArray s.er (some (j,want))=some false:=by
 have:get s.er.fr d=some (.tup []):=by rw[show get s.er.fr d=_ from get_erF h3];rfl
 simp[wants,h1,h2,this]
theorem lit_GL {s:TSt S}{ops:Array Oper}{rest:List Oper}{d:Nat}{f b v:Bool}(h:tget s.frA d=some (.dat f .bool b)) (hb:b=v) (hk:GL P N cx ops Q rest (s.put d (.dat true .bool v)).er):GL P N cx ops Q rest s.er:=by
 refine GL.lit d (b:=b) (v:=v) ?_ hb ?_
 ·rw[show get s.er.fr d=_ from get_erF h];exact congrArg some (datG_bool f b)
 ·rw[put_er] at hk
  have e:(TV.dat true .bool v:TV S).er s.ln=.val (.bool v):=datG_bool true v
  rw[e] at hk
  exact hk
theorem regL_ok (hokW:∀h,ok h=true→W.contains h=true){kp:List PanicEntry→TSt S→Option A}(hcl:ClOk P N W cl kp r) (hyl:YlOk P N cl r){ops:List Oper}:∀{rest:List Oper}{s:TSt S}{k:TSt S→Option A},LInv s→regL P N ok ops cl rest s k=some r→
  (∀t:TSt S,LInv t→Keep s t→k t=some r→Q .normal t.er)→(∀ch (t:TSt S),LInv t→Keep s t→kp ch t=some r→∃u,Gh t.er u∧Q (.panic ch) u)→GL P N cx ops.toArray Q rest s.er
 | [],s,k,hl,h,hk,_=>GL.nil (hk s hl (Keep.refl s) h)
 | o::rest,s,k,hl,h,hk,hkp=>by
  simp only[regL] at h
  split at h
  ·rename_i hg
   split at h
   ·rename_i c hc
    obtain⟨e1,e2⟩:=yOp_some hc
    obtain⟨dst,op,ty,pos,after,guard⟩:=o
    dsimp only at hg e1 h
    subst hg;subst e1
    exact hyl cx s dst c _ hl e2 h ty pos after _ _ _ fun t hl' hkp' h'=>regL_ok hokW hcl hyl hl' h' (fun t2 a1 a2 a3=>hk t2 a1 (Keep.trans ⟨hkp'.lo,hkp'.lst,hkp'.df⟩ a2) a3) fun ch t2 a1 a2 a3=>hkp ch t2 a1 (Keep.trans ⟨hkp'.lo,hkp'.lst,hkp'.df⟩ a2) a3
   exact opC_GL hokW hcl hl (by rw[hg];rfl) h (fun t hl' hkp' h'=>regL_ok hokW hcl hyl hl' h' (fun t2 a1 a2 a3=>hk t2 a1 (Keep.trans ⟨hkp'.lo,hkp'.lst,hkp'.df⟩ a2) a3) fun ch t2 a1 a2 a3=>hkp ch t2 a1 (Keep.trans ⟨hkp'.lo,hkp'.lst,hkp'.df⟩ a2) a3) hkp
  ·rename_i j want hg
   split at h
   ·rename_i oj hj
    split at h
    ·rename_i d hd
     split at h
     ·rename_i f b hb
      have hlt:=fun v=>LInv.put hl d (.dat true .bool v:TV S)
      have ht:∀v,tget (s.put d (.dat true .bool v)).frA d=some (.dat true .bool v):=fun v=>by simp only[TSt.put,TSt.frA,List.cons_append,tget,Nat.beq_refl,cond_true]
      split at h
      ·cases hbv:b with
       | true=>
        rw[hbv] at h
        refine lit_GL hb hbv (opC_GL hokW hcl (hlt true) ?_ h (fun t hl' hkp' h'=>regL_ok hokW hcl hyl hl' h' (fun t2 a1 a2 a3=>hk t2 a1 (Keep.trans ⟨hkp'.lo,hkp'.lst,hkp'.df⟩ a2) a3) fun ch t2 a1 a2 a3=>hkp ch t2 a1 (Keep.trans ⟨hkp'.lo,hkp'.lst,hkp'.df⟩ a2) a3) fun ch t2 a1 a2 a3=>hkp ch t2 a1 ⟨a2.lo,a2.lst,a2.df⟩ a3)
        rw[hg,wants_lit hj hd (ht true)];rfl
       | false=>
        rw[hbv] at h
        dsimp only[cond_false] at h
        refine lit_GL hb hbv ?_
        split at h
        ·rename_i s' hs
         exact skipT_GL (hlt false) (by rw[hg,wants_lit hj hd (ht false)];rfl) hs fun hl' hkp'=>regL_ok hokW hcl hyl hl' h (fun t2 a1 a2 a3=>hk t2 a1 (Keep.trans ⟨hkp'.lo,hkp'.lst,hkp'.df⟩ a2) a3) fun ch t2 a1 a2 a3=>hkp ch t2 a1 (Keep.trans ⟨hkp'.lo,hkp'.lst,hkp'.df⟩ a2) a3
        ·cases h
      ·cases hbv:b with
       | true=>
        rw[hbv] at h
        dsimp only[cond_true] at h
        refine lit_GL hb hbv ?_
        split at h
        ·rename_i s' hs
         exact skipT_GL (hlt true) (by rw[hg,wants_lit hj hd (ht true)];rfl) hs fun hl' hkp'=>regL_ok hokW hcl hyl hl' h (fun t2 a1 a2 a3=>hk t2 a1 (Keep.trans ⟨hkp'.lo,hkp'.lst,hkp'.df⟩ a2) a3) fun ch t2 a1 a2 a3=>hkp ch t2 a1 (Keep.trans ⟨hkp'.lo,hkp'.lst,hkp'.df⟩ a2) a3
        ·cases h
       | false=>
        rw[hbv] at h
        refine lit_GL hb hbv (opC_GL hokW hcl (hlt false) ?_ h (fun t hl' hkp' h'=>regL_ok hokW hcl hyl hl' h' (fun t2 a1 a2 a3=>hk t2 a1 (Keep.trans ⟨hkp'.lo,hkp'.lst,hkp'.df⟩ a2) a3) fun ch t2 a1 a2 a3=>hkp ch t2 a1 (Keep.trans ⟨hkp'.lo,hkp'.lst,hkp'.df⟩ a2) a3) fun ch t2 a1 a2 a3=>hkp ch t2 a1 ⟨a2.lo,a2.lst,a2.df⟩ a3)
        rw[hg,wants_lit hj hd (ht false)];rfl
     ·rename_i hb
      split at h
      ·rename_i s' hs
       exact skipT_GL hl (by rw[hg,wants_tup hj hd hb]) hs fun hl' hkp'=>regL_ok hokW hcl hyl hl' h (fun t2 a1 a2 a3=>hk t2 a1 (Keep.trans ⟨hkp'.lo,hkp'.lst,hkp'.df⟩ a2) a3) fun ch t2 a1 a2 a3=>hkp ch t2 a1 (Keep.trans ⟨hkp'.lo,hkp'.lst,hkp'.df⟩ a2) a3
      ·cases h
     ·cases h
    ·cases h
   ·cases h
end
end
end Go.DN
/-
 DN,part M:regions that draw their order.
-/
namespace Go.DN
open Go.AM
section
variable {S:Sig}
def passed (s:TSt S):List Operand→Bool
 | []=>false
 | x::r=>match tev s x with
  | some (.tup [])=>true
  | _=>passed s r
def calm (W:List Nat) (s:TSt S) (o:Oper):Bool:=
 match o.op with
 | .load _ x=>match tev s x with
  | some (.ptr _ _ _)=>true
  | some (.loc h _)=>!(W.contains h)
  | some (.elt h _ _ _)=>!(W.contains h)
  | some (.tup [])=>true
  | _=>false
 | .call c=>match isEf (.call c) with
  | true=>passed s c.args.toList
  | false=>true
 | .binOp op t x y t'=>match isEf (.binOp op t x y t') with
  | true=>passed s [x]
  | false=>true
 | .lookup _ _ _ _=>false
 | op=>!(isEf op)
def off (s:TSt S) (o:Oper):Bool:=
 match o.op with
 | .load _ x=>passed s [x]
 | .call c=>passed s c.args.toList
 | .binOp _ _ x _ _=>passed s [x]
 | _=>false
def pick (f:Oper→Bool) (ops:Array Oper) (listed:Array Bool):List Nat→Option (Nat×Oper)
 | []=>none
 | i::r=>match ops[i]? with
  | some o=>match f o&&Region.free .any ops listed i with
   | true=>some (i,o)
   | false=>pick f ops listed r
  | none=>pick f ops listed r
theorem pick_ok {f:Oper→Bool}{ops:Array Oper}{listed:Array Bool}:∀{l:List Nat}{i:Nat}{o:Oper},pick f ops listed l=some (i,o)→i∈l∧ops[i]?=some o∧f o=true∧Region.free .any ops listed i=true
 | [],_,_,h=>by cases h
 | j::r,i,o,h=>by
  simp only[pick] at h
  split at h
  ·rename_i o' ho
   split at h
   ·rename_i hc
    cases h
    simp only[Bool.and_eq_true] at hc
    exact⟨List.mem_cons_self,ho,hc.1,hc.2⟩
   ·obtain⟨h1,h2⟩:=pick_ok h
    exact⟨List.mem_cons_of_mem _ h1,h2⟩
  ·obtain⟨h1,h2⟩:=pick_ok h
   exact⟨List.mem_cons_of_mem _ h1,h2⟩
def guardC (N:Nat) (ops:Array Oper) (s:TSt S) (o:Oper){A:Type}(run:TSt S→Option A) (skip:TSt S→Option A):Option A:=
 match o.guard with
 | none=>run s
 | some (j,want)=>match ops[j]? with
  | some oj=>match oj.dst with
   | some d=>match tget s.frA d with
    | some (.dat _ .bool b)=>match want with
     | true=>cond b (run (s.put d (.dat true .bool true))) (match skipT N (s.put d (.dat true .bool false)) o with | some s'=>skip s' | none=>none)
     | false=>cond b (match skipT N (s.put d (.dat true .bool true)) o with | some s'=>skip s' | none=>none) (run (s.put d (.dat true .bool false)))
    | some (.tup [])=>match skipT N s o with
     | some s'=>skip s'
     | none=>none
    | _=>none
   | none=>none
  | none=>none
open Classical in
noncomputable def amb {A:Type}(x y:Option A):Option A:=if x=y then x else none
theorem amb_spec {A:Type}{x y:Option A}{r:A}(h:amb x y=some r):x=some r∧y=some r:=by
 unfold amb at h
 split at h
 ·rename_i e
  exact⟨h,e▸h⟩
 ·cases h
theorem amb_self {A:Type}(x:Option A):amb x x=x:=by unfold amb;simp
noncomputable def amb2 {A:Type}(x:Option A):Option A:=amb x x
theorem amb2_self {A:Type}(x:Option A):amb2 x=x:=amb_self x
noncomputable def ambL {A:Type}:List (Option A)→Option A
 | []=>none
 | [x]=>x
 | x::r=>amb x (ambL r)
theorem ambL_spec {A:Type}:∀{l:List (Option A)}{r:A},ambL l=some r→∀x∈l,x=some r
 | [],_,h,x,hx=>by cases hx
 | [y],r,h,x,hx=>by simp at hx;subst hx;exact h
 | y::z::l,r,h,x,hx=>by
  obtain⟨h1,h2⟩:=amb_spec h
  rcases List.mem_cons.1 hx with e | hx
  ·subst e;exact h1
  ·exact ambL_spec h2 x hx
def known1 (ops:Array Oper) (s:TSt S) (o:Oper):Bool:=
 match o.guard with
 | none=>true
 | some (j,want)=>match ops[j]? with
  | some oj=>match oj.dst with
   | some d=>match tget s.frA d with
    | some (.dat _ .bool b)=>match b with
     | true=>want
     | false=>!want
    | _=>false
   | none=>false
  | none=>false
theorem known1_ok {ops:Array Oper}{s:TSt S}{o:Oper}(h:known1 ops s o=true):wants ops s.er o.guard=some true:=by
 unfold known1 at h
 split at h
 ·rename_i hg;rw[hg];rfl
 ·rename_i j want hg
  rw[hg]
  split at h
  ·rename_i oj hj
   split at h
   ·rename_i d hd
    split at h
    ·rename_i f b hb
     have:get s.er.fr d=some (.val (.bool b)):=by rw[show get s.er.fr d=_ from get_erF hb];exact congrArg some (datG_bool f b)
     have hw:wants ops s.er (some (j,want))=some (b==want):=by simp[wants,hj,hd,this]
     rw[hw]
     cases b <;> cases want <;> first | rfl | cases h
    ·cases h
   ·cases h
  ·cases h
def splitG (ops:Array Oper){A:Type}:List Nat→TSt S→(TSt S→Option A)→Option A
 | [],s,k=>k s
 | i::r,s,k=>match ops[i]? with
  | some o=>match o.guard with
   | some (j,_)=>match ops[j]? with
    | some oj=>match oj.dst with
     | some d=>match tget s.frA d with
      | some (.dat _ .bool b)=>cond b (splitG ops r (s.put d (.dat true .bool true)) k) (splitG ops r (s.put d (.dat true .bool false)) k)
      | _=>splitG ops r s k
     | none=>splitG ops r s k
    | none=>splitG ops r s k
   | none=>splitG ops r s k
  | none=>splitG ops r s k
def offG (ops:Array Oper) (s:TSt S) (o:Oper):Bool:=
 match o.guard with
 | none=>false
 | some (j,want)=>match ops[j]? with
  | some oj=>match oj.dst with
   | some d=>match tget s.frA d with
    | some (.dat _ .bool b)=>match b with
     | true=>!want
     | false=>want
    | some (.tup [])=>true
    | _=>false
   | none=>false
  | none=>false
noncomputable def drawC2 (P:Program) (N:Nat) (ok:Nat→Bool) (ops:Array Oper){A:Type}(cl:TSt S→Option Nat→Call→(TSt S→Option A)→Option A):Nat→Array Bool→TSt S→(TSt S→Option A)→Option A
 | 0,listed,s,k=>match Region.ready .any ops listed with
  | []=>k s
  | _=>none
 | fuel+1,listed,s,k=>match Region.ready .any ops listed with
  | []=>k s
  | i0::rs=>match pick (fun o=>dstN N o.dst&&((!(isLd o.op)&&!(isEf o.op))||off s o)&&o.dst.isSome) ops listed (i0::rs) with
   | some (i,o)=>guardC N ops s o (fun s'=>match o.dst with
     | some d=>pyC P s' o.op fun v x=>drawC2 P N ok ops cl fuel (listed.setIfInBounds i true) (s'.putL d v x) k
     | none=>none) (fun s'=>drawC2 P N ok ops cl fuel (listed.setIfInBounds i true) s' k)
   | none=>match rs with
    | []=>match ops[i0]? with
     | some o=>match dstN N o.dst with
      | true=>match o.dst,isLd o.op&&!(isRowLd s o.op) with
       | some d,true=>guardC N ops s o (fun s'=>ylC P [] s' o.op fun v=>drawC2 P N ok ops cl fuel (listed.setIfInBounds i0 true) (s'.put d v) k) (fun s'=>match Region.free .any ops listed i0 with
        | true=>drawC2 P N ok ops cl fuel (listed.setIfInBounds i0 true) s' k
        | false=>none)
       | _,_=>match isEfS s o.op with
        | true=>guardC N ops s o (fun s'=>efC P ok cl s' o.dst o.op fun s2=>drawC2 P N ok ops cl fuel (listed.setIfInBounds i0 true) s2 k) (fun s'=>match Region.free .any ops listed i0 with
         | true=>drawC2 P N ok ops cl fuel (listed.setIfInBounds i0 true) s' k
         | false=>none)
        | false=>none
      | false=>none
     | none=>none
    | _=>splitG ops (i0::rs) s fun s=>match pick (fun o=>dstN N o.dst&&offG ops s o&&o.dst.isSome) ops listed (i0::rs) with
     | some (i,o)=>match skipT N s o with
      | some s'=>drawC2 P N ok ops cl fuel (listed.setIfInBounds i true) s' k
      | none=>none
     | none=>ambL ((i0::rs).map fun i=>match ops[i]? with
      | some o=>match dstN N o.dst&&known1 ops s o with
       | true=>match o.dst,isLd o.op&&!(isRowLd s o.op) with
        | some d,true=>ylC P [] s o.op fun v=>drawC2 P N ok ops cl fuel (listed.setIfInBounds i true) (s.put d v) k
        | _,_=>match isEfS s o.op with
         | true=>efC P ok cl s o.dst o.op fun s2=>drawC2 P N ok ops cl fuel (listed.setIfInBounds i true) s2 k
         | false=>none
       | false=>none
      | none=>none)
noncomputable def drawC1 (P:Program) (N:Nat) (ok:Nat→Bool) (W:List Nat) (ops:Array Oper){A:Type}(cl:TSt S→Option Nat→Call→(TSt S→Option A)→Option A):Nat→Array Bool→TSt S→(TSt S→Option A)→Option A
 | 0,listed,s,k=>drawC2 P N ok ops cl 0 listed s k
 | fuel+1,listed,s,k=>match pick (fun o=>dstN N o.dst&&calm W s o&&o.dst.isSome) ops listed (Region.ready .any ops listed) with
  | some (i,o)=>guardC N ops s o (fun s'=>match o.dst with
    | some d=>match isLd o.op with
     | true=>ylC P W s' o.op fun v=>drawC1 P N ok W ops cl fuel (listed.setIfInBounds i true) (s'.put d v) k
     | false=>pyC P s' o.op fun v x=>drawC1 P N ok W ops cl fuel (listed.setIfInBounds i true) (s'.putL d v x) k
    | none=>none) (fun s'=>drawC1 P N ok W ops cl fuel (listed.setIfInBounds i true) s' k)
  | none=>drawC2 P N ok ops cl (fuel+1) listed s k
noncomputable def drawC (P:Program) (N:Nat) (ok:Nat→Bool) (W:List Nat) (ops:Array Oper){A:Type}(cl:TSt S→Option Nat→Call→(TSt S→Option A)→Option A) (s:TSt S) (k:TSt S→Option A):Option A:=
 match Region.noSelect ops&&noDefer ops.toList with
 | true=>drawC1 P N ok W ops cl ops.size (Array.replicate ops.size false) s k
 | false=>none
section
variable {P:Program}{N:Nat}{cx:Cx}{Q:Exit→St→Prop}{W:List Nat}{ok:Nat→Bool}{A:Type}{cl:TSt S→Option Nat→Call→(TSt S→Option A)→Option A}{r:A}{ops:Array Oper}
theorem wantsA_lit {s:TSt S}{j d:Nat}{want b:Bool}{oj:Oper}(h1:ops[j]?=some oj) (h2:oj.dst=some d) (h3:tget s.frA d=some (.dat true .bool b)):wants ops s.er (some (j,want))=some (b==want):=by
 have:get s.er.fr d=some (.val (.bool b)):=by rw[show get s.er.fr d=_ from get_erF h3];exact congrArg some (datG_bool true b)
 simp[wants,h1,h2,this]
theorem wantsA_tup {s:TSt S}{j d:Nat}{want:Bool}{oj:Oper}(h1:ops[j]?=some oj) (h2:oj.dst=some d) (h3:tget s.frA d=some (.tup [])):wants ops s.er (some (j,want))=some false:=by
 have:get s.er.fr d=some (.tup []):=by rw[show get s.er.fr d=_ from get_erF h3];rfl
 simp[wants,h1,h2,this]
theorem offG_ok {s:TSt S}{o:Oper}(h:offG ops s o=true):wants ops s.er o.guard=some false:=by
 unfold offG at h
 split at h
 ·cases h
 ·rename_i j want hg
  rw[hg]
  split at h
  ·rename_i oj hj
   split at h
   ·rename_i d hd
    split at h
    ·rename_i f b hb
     have:get s.er.fr d=some (.val (.bool b)):=by rw[show get s.er.fr d=_ from get_erF hb];exact congrArg some (datG_bool f b)
     have hw:wants ops s.er (some (j,want))=some (b==want):=by simp[wants,hj,hd,this]
     rw[hw]
     cases b <;> cases want <;> first | rfl | cases h
    ·rename_i hb
     have:get s.er.fr d=some (.tup []):=get_erF hb
     simp[wants,hj,hd,this]
    ·cases h
   ·cases h
  ·cases h
theorem splitG_ok {X:St→Prop}(hlit:∀(s:St) (t:Nat) (b v:Bool),get s.fr t=some (.val (.bool b))→b=v→X {fr:=(t,.val (.bool v))::s.fr,st:=s.st,df:=s.df}→X s):∀{l:List Nat}{s:TSt S}{k:TSt S→Option A},LInv s→splitG ops l s k=some r→
  (∀t:TSt S,LInv t→Keep s t→k t=some r→X t.er)→X s.er
 | [],s,k,hl,h,hk=>hk s hl (Keep.refl s) h
 | i::l,s,k,hl,h,hk=>by
  have lit:∀{s:TSt S}{d:Nat}{f b:Bool}(v:Bool),tget s.frA d=some (.dat f .bool b)→b=v→X (s.put d (.dat true .bool v)).er→X s.er:=by
   intro s d f b v hb e hX
   refine hlit _ d b v ?_ e ?_
   ·rw[show get s.er.fr d=_ from get_erF hb];exact congrArg some (datG_bool f b)
   ·rw[put_er] at hX
    have e2:(TV.dat true .bool v:TV S).er s.ln=.val (.bool v):=datG_bool true v
    rw[e2] at hX
    exact hX
  simp only[splitG] at h
  split at h
  ·split at h
   ·split at h
    ·split at h
     ·rename_i d _
      split at h
      ·rename_i f b hb
       cases hbv:b with
       | true=>
        rw[hbv] at h
        exact lit true hb hbv (splitG_ok hlit (hl.put d _) h fun t a1 a2 a3=>hk t a1 ⟨a2.lo,a2.lst,a2.df⟩ a3)
       | false=>
        rw[hbv] at h
        exact lit false hb hbv (splitG_ok hlit (hl.put d _) h fun t a1 a2 a3=>hk t a1 ⟨a2.lo,a2.lst,a2.df⟩ a3)
      ·exact splitG_ok hlit hl h hk
     ·exact splitG_ok hlit hl h hk
    ·exact splitG_ok hlit hl h hk
   ·exact splitG_ok hlit hl h hk
  ·exact splitG_ok hlit hl h hk
theorem guardC_ok {X:St→Prop}(hlit:∀(s:St) (t:Nat) (b v:Bool),get s.fr t=some (.val (.bool b))→b=v→X {fr:=(t,.val (.bool v))::s.fr,st:=s.st,df:=s.df}→X s)
  {s:TSt S}{o:Oper}{run skip:TSt S→Option A}(hl:LInv s) (h:guardC N ops s o run skip=some r)
  (hrun:∀t:TSt S,LInv t→Keep s t→wants ops t.er o.guard=some true→run t=some r→X t.er)
  (hskip:∀(t t':TSt S),LInv t→Keep s t→wants ops t.er o.guard=some false→skipT N t o=some t'→skip t'=some r→X t.er):X s.er:=by
 unfold guardC at h
 have lit:∀{s:TSt S}{d:Nat}{f b:Bool}(v:Bool),tget s.frA d=some (.dat f .bool b)→b=v→X (s.put d (.dat true .bool v)).er→X s.er:=by
  intro s d f b v hb e hX
  refine hlit _ d b v ?_ e ?_
  ·rw[show get s.er.fr d=_ from get_erF hb];exact congrArg some (datG_bool f b)
  ·rw[put_er] at hX
   have e2:(TV.dat true .bool v:TV S).er s.ln=.val (.bool v):=datG_bool true v
   rw[e2] at hX
   exact hX
 split at h
 ·rename_i hg
  exact hrun s hl (Keep.refl s) (by rw[hg];rfl) h
 ·rename_i j want hg
  split at h
  ·rename_i oj hj
   split at h
   ·rename_i d hd
    split at h
    ·rename_i f b hb
     have hlt:=fun v=>LInv.put hl d (.dat true .bool v:TV S)
     have ht:∀v,tget (s.put d (.dat true .bool v)).frA d=some (.dat true .bool v):=fun v=>by simp only[TSt.put,TSt.frA,List.cons_append,tget,Nat.beq_refl,cond_true]
     split at h
     ·cases hbv:b with
      | true=>
       rw[hbv] at h
       exact lit true hb hbv (hrun _ (hlt true) ⟨rfl,rfl,rfl⟩ (by rw[hg,wantsA_lit hj hd (ht true)];rfl) h)
      | false=>
       rw[hbv] at h
       dsimp only[cond_false] at h
       refine lit false hb hbv ?_
       split at h
       ·rename_i s' hs
        exact hskip _ s' (hlt false) ⟨rfl,rfl,rfl⟩ (by rw[hg,wantsA_lit hj hd (ht false)];rfl) hs h
       ·cases h
     ·cases hbv:b with
      | true=>
       rw[hbv] at h
       dsimp only[cond_true] at h
       refine lit true hb hbv ?_
       split at h
       ·rename_i s' hs
        exact hskip _ s' (hlt true) ⟨rfl,rfl,rfl⟩ (by rw[hg,wantsA_lit hj hd (ht true)];rfl) hs h
       ·cases h
      | false=>
       rw[hbv] at h
       exact lit false hb hbv (hrun _ (hlt false) ⟨rfl,rfl,rfl⟩ (by rw[hg,wantsA_lit hj hd (ht false)];rfl) h)
    ·rename_i hb
     split at h
     ·rename_i s' hs
      exact hskip _ s' hl (Keep.refl s) (by rw[hg,wantsA_tup hj hd hb]) hs h
     ·cases h
    ·cases h
   ·cases h
  ·cases h
theorem skipT_some {s t:TSt S}{o:Oper}{d:Nat}(hd:o.dst=some d) (h:skipT N s o=some t):d<N∧t=s.put d (.tup []):=by
 unfold skipT at h
 rw[hd] at h
 dsimp only at h
 split at h
 ·rename_i hN
  cases h
  exact⟨by simpa[Nat.blt_eq] using hN,rfl⟩
 ·cases h
theorem GH2.passN {s:St}{fuel:Nat}{listed:Array Bool}(i:Nat){o:Oper}(hi:ops[i]?=some o) (hs:Region.noSelect ops=true) (hf:Region.free .any ops listed i=true)
  (hr:(Region.ready .any ops listed).contains i=true) (hw:wants ops s o.guard=some false) (hd:o.dst=none)
  (h:GH2 P N cx ops Q W fuel (listed.setIfInBounds i true) s):GH2 P N cx ops Q W (fuel+1) listed s:=by
 intro ws Wb μ a w hrel hS hW
 refine wpAnyH_take (v:=undef) hi hs hf hr (fun c a' w' h=>(by rw[hd] at h;exact h)) (.inr ⟨wants_spec hrel hw,rfl⟩) hS ?_
 rw[hd]
 exact h ws Wb μ _ w hrel hS hW
theorem drawC2_ok (hokW:∀h,ok h=true→W.contains h=true){kp:List PanicEntry→TSt S→Option A}(hcl:ClOk P N W cl kp r) (hs:Region.noSelect ops=true) (hpn:PNo Q (dsts ops)):∀{fuel:Nat}{listed:Array Bool}{s:TSt S}{k:TSt S→Option A},LInv s→drawC2 P N ok ops cl fuel listed s k=some r→
  (∀t:TSt S,LInv t→Keep s t→k t=some r→Q .normal t.er)→(∀ch (t:TSt S),LInv t→Keep s t→kp ch t=some r→∃u,Gh t.er u∧Q (.panic ch) u)→GH2 P N cx ops Q W fuel listed s.er
 | 0,listed,s,k,hl,h,hk,hkp=>by
  unfold drawC2 at h
  split at h
  ·rename_i hr
   exact GH2.done hr (hk s hl (Keep.refl s) h)
  ·cases h
 | fuel+1,listed,s,k,hl,h,hk,hkp0=>by
  unfold drawC2 at h
  split at h
  ·rename_i hr
   exact GH2.done hr (hk s hl (Keep.refl s) h)
  ·rename_i i0 rs hr
   split at h
   ·rename_i i o hp
    obtain⟨p1,p2,p3,p4⟩:=pick_ok hp
    simp only[Bool.and_eq_true] at p3
    obtain⟨⟨q1,q2⟩,q4⟩:=p3
    have hcon:(Region.ready .any ops listed).contains i=true:=by rw[hr];exact List.contains_iff_mem.2 p1
    refine guardC_ok (X:=fun s=>GH2 P N cx ops Q W (fuel+1) listed s) (fun s t b v h1 h2 h3=>GH2.lit t h1 h2 h3) hl h (fun t hl' hkp hw h'=>?_) (fun t t' hl' hkp hw hsk h'=>?_)
    ·cases hd:o.dst with
     | none=>rw[hd] at q4;cases q4
     | some d=>
      rw[hd] at h' q1
      dsimp only at h'
      have hN:d<N:=by simpa[dstN,Nat.blt_eq] using q1
      obtain⟨v,x,h1,h2,h3⟩:=pyC_ok (dst:=o.dst) (ty:=o.type) (pos:=o.pos) (after:=o.after) (guard:=o.guard) h'
      refine GH2.take i hpn p2 hs p4 hcon hw hd hN h1 ?_
      rw[←putL_er t d v x]
      exact drawC2_ok hokW hcl hs hpn (putL_ok hl' d h2) h3 (fun t2 a1 a2 a3=>hk t2 a1 ((hkp.trans (putL_keep t d v x)).trans a2) a3) fun ch t2 a1 a2 a3=>hkp0 ch t2 a1 ((hkp.trans (putL_keep t d v x)).trans a2) a3
    ·cases hd:o.dst with
     | none=>rw[hd] at q4;cases q4
     | some d=>
      obtain⟨hN,e⟩:=skipT_some hd hsk
      subst e
      exact GH2.passu i hpn p2 hs p4 hcon hw hd hN (drawC2_ok hokW hcl hs hpn (hl'.put _ _) h' (fun t2 a1 a2 a3=>hk t2 a1 (hkp.trans ⟨a2.lo,a2.lst,a2.df⟩) a3) fun ch t2 a1 a2 a3=>hkp0 ch t2 a1 (hkp.trans ⟨a2.lo,a2.lst,a2.df⟩) a3)
   ·split at h
    ·split at h
     ·rename_i o ho
      split at h
      ·rename_i hdN
       split at h
       ·rename_i d hd hld
        have hN:d<N:=by rw[hd] at hdN;simpa[dstN,Nat.blt_eq] using hdN
        refine guardC_ok (X:=fun s=>GH2 P N cx ops Q W (fuel+1) listed s) (fun s t b v h1 h2 h3=>GH2.lit t h1 h2 h3) hl h (fun t hl' hkp hw h'=>?_) (fun t t' hl' hkp hw hsk h'=>?_)
        ·obtain⟨v,h1,h2⟩:=ylC_ok (dst:=o.dst) (ty:=o.type) (pos:=o.pos) (after:=o.after) (guard:=o.guard) hl' h'
         exact GH2.oneY i0 hr ho hw hd hN h1 (drawC2_ok hokW hcl hs hpn (hl'.put d v) h2 (fun t2 a1 a2 a3=>hk t2 a1 (hkp.trans ⟨a2.lo,a2.lst,a2.df⟩) a3) fun ch t2 a1 a2 a3=>hkp0 ch t2 a1 (hkp.trans ⟨a2.lo,a2.lst,a2.df⟩) a3)
        ·split at h'
         ·rename_i hf
          obtain⟨_,e⟩:=skipT_some hd hsk
          subst e
          exact GH2.passu i0 hpn ho hs hf (by rw[hr];simp) hw hd hN (drawC2_ok hokW hcl hs hpn (hl'.put _ _) h' (fun t2 a1 a2 a3=>hk t2 a1 (hkp.trans ⟨a2.lo,a2.lst,a2.df⟩) a3) fun ch t2 a1 a2 a3=>hkp0 ch t2 a1 (hkp.trans ⟨a2.lo,a2.lst,a2.df⟩) a3)
         ·cases h'
       ·split at h
        ·refine guardC_ok (X:=fun s=>GH2 P N cx ops Q W (fuel+1) listed s) (fun s t b v h1 h2 h3=>GH2.lit t h1 h2 h3) hl h (fun t hl' hkp hw h'=>?_) (fun t t' hl' hkp hw hsk h'=>?_)
         ·obtain⟨T,Tp,h1,h2,h2p⟩:=efC_ok hokW hcl hl' h'
          refine GH2.oneP i0 hr ho hw (fun d e=>?_) (EffectP.tell (Tp':=fun ch u=>Q (.panic ch) u) h1 fun ch s' ht=>?_) (fun s' ht=>?_) fun _ _ h=>h
          ·rw[e] at hdN;simpa[dstN,Nat.blt_eq] using hdN
          ·obtain⟨t2,g1,g2,g3,g4⟩:=h2p ch s' ht
           obtain⟨u,g5,g6⟩:=hkp0 ch t2 g2 (hkp.trans g3) g4
           exact⟨u,g1.trans g5,g6⟩
          ·obtain⟨t2,g1,g2,g3,g4⟩:=h2 s' ht
           exact GH2.gh g1 (drawC2_ok hokW hcl hs hpn g2 g4 (fun t3 a1 a2 a3=>hk t3 a1 ((hkp.trans g3).trans a2) a3) fun ch t3 a1 a2 a3=>hkp0 ch t3 a1 ((hkp.trans g3).trans a2) a3)
         ·split at h'
          ·rename_i hf
           cases hd:o.dst with
           | none=>
            unfold skipT at hsk
            rw[hd] at hsk
            dsimp only at hsk
            cases hsk
            exact GH2.passN i0 ho hs hf (by rw[hr];simp) hw hd (drawC2_ok hokW hcl hs hpn hl' h' (fun t2 a1 a2 a3=>hk t2 a1 (hkp.trans ⟨a2.lo,a2.lst,a2.df⟩) a3) fun ch t2 a1 a2 a3=>hkp0 ch t2 a1 (hkp.trans ⟨a2.lo,a2.lst,a2.df⟩) a3)
           | some d=>
            obtain⟨hN,e⟩:=skipT_some hd hsk
            subst e
            exact GH2.passu i0 hpn ho hs hf (by rw[hr];simp) hw hd hN (drawC2_ok hokW hcl hs hpn (hl'.put _ _) h' (fun t2 a1 a2 a3=>hk t2 a1 (hkp.trans ⟨a2.lo,a2.lst,a2.df⟩) a3) fun ch t2 a1 a2 a3=>hkp0 ch t2 a1 (hkp.trans ⟨a2.lo,a2.lst,a2.df⟩) a3)
          ·cases h'
        ·cases h
      ·cases h
     ·cases h
    ·refine splitG_ok (X:=fun s=>GH2 P N cx ops Q W (fuel+1) listed s) (fun s t b v h1 h2 h3=>GH2.lit t h1 h2 h3) hl h fun s1 hl1 hk1 h=>?_
     split at h
     ·rename_i i o hp
      obtain⟨p1,p2,p3,p4⟩:=pick_ok hp
      simp only[Bool.and_eq_true] at p3
      obtain⟨⟨q1,q2⟩,q4⟩:=p3
      have hcon:(Region.ready .any ops listed).contains i=true:=by rw[hr];exact List.contains_iff_mem.2 p1
      split at h
      ·rename_i s' hsk
       cases hd:o.dst with
       | none=>rw[hd] at q4;cases q4
       | some d=>
        obtain⟨hN,e⟩:=skipT_some hd hsk
        subst e
        exact GH2.passu i hpn p2 hs p4 hcon (offG_ok q2) hd hN (drawC2_ok hokW hcl hs hpn (hl1.put _ _) h (fun t2 a1 a2 a3=>hk t2 a1 (hk1.trans ⟨a2.lo,a2.lst,a2.df⟩) a3) fun ch t2 a1 a2 a3=>hkp0 ch t2 a1 (hk1.trans ⟨a2.lo,a2.lst,a2.df⟩) a3)
      ·cases h
     ·have hall:=ambL_spec h
      refine GH2.any i0 rs hr ?_
      have turn:∀i,i∈i0::rs→Turn P N cx ops Q W fuel listed s1.er i:=by
       intro i hi
       have hx:=hall _ (List.mem_map_of_mem hi)
       split at hx
       ·rename_i o ho
        split at hx
        ·rename_i hc
         simp only[Bool.and_eq_true] at hc
         obtain⟨hdN,hkn⟩:=hc
         have hw:=known1_ok hkn
         split at hx
         ·rename_i d hd hld
          have hN:d<N:=by rw[hd] at hdN;simpa[dstN,Nat.blt_eq] using hdN
          obtain⟨v,h1,h2⟩:=ylC_ok (dst:=o.dst) (ty:=o.type) (pos:=o.pos) (after:=o.after) (guard:=o.guard) hl1 hx
          exact Turn.y i ho hw hd hN h1 (drawC2_ok hokW hcl hs hpn (hl1.put d v) h2 (fun t2 a1 a2 a3=>hk t2 a1 (hk1.trans ⟨a2.lo,a2.lst,a2.df⟩) a3) fun ch t2 a1 a2 a3=>hkp0 ch t2 a1 (hk1.trans ⟨a2.lo,a2.lst,a2.df⟩) a3)
         ·split at hx
          ·obtain⟨T,Tp,h1,h2,h2p⟩:=efC_ok hokW hcl hl1 hx
           refine Turn.eP i ho hw (fun d e=>?_) (EffectP.tell (Tp':=fun ch u=>Q (.panic ch) u) h1 fun ch s' ht=>?_) (fun s' ht=>?_) fun _ _ h=>h
           ·rw[e] at hdN;simpa[dstN,Nat.blt_eq] using hdN
           ·obtain⟨t2,g1,g2,g3,g4⟩:=h2p ch s' ht
            obtain⟨u,g5,g6⟩:=hkp0 ch t2 g2 (hk1.trans g3) g4
            exact⟨u,g1.trans g5,g6⟩
           ·obtain⟨t2,g1,g2,g3,g4⟩:=h2 s' ht
            exact GH2.gh g1 (drawC2_ok hokW hcl hs hpn g2 g4 (fun t3 a1 a2 a3=>hk t3 a1 (hk1.trans (g3.trans a2)) a3) fun ch t3 a1 a2 a3=>hkp0 ch t3 a1 (hk1.trans (g3.trans a2)) a3)
          ·cases hx
        ·cases hx
       ·cases hx
      clear hr hall h
      generalize i0::rs=l at turn
      induction l with
      | nil=>exact trivial
      | cons x r ih=>exact⟨turn x List.mem_cons_self,ih fun i hi=>turn i (List.mem_cons_of_mem _ hi)⟩
theorem drawC1_ok (hokW:∀h,ok h=true→W.contains h=true){kp:List PanicEntry→TSt S→Option A}(hcl:ClOk P N W cl kp r) (hs:Region.noSelect ops=true) (hpn:PNo Q (dsts ops)):∀{fuel:Nat}{listed:Array Bool}{s:TSt S}{k:TSt S→Option A},LInv s→drawC1 P N ok W ops cl fuel listed s k=some r→
  (∀t:TSt S,LInv t→Keep s t→k t=some r→Q .normal t.er)→(∀ch (t:TSt S),LInv t→Keep s t→kp ch t=some r→∃u,Gh t.er u∧Q (.panic ch) u)→GH1 P N cx ops Q W fuel listed s.er
 | 0,listed,s,k,hl,h,hk,hkp0=>GH1.later (drawC2_ok hokW hcl hs hpn hl h hk hkp0)
 | fuel+1,listed,s,k,hl,h,hk,hkp0=>by
  unfold drawC1 at h
  split at h
  ·rename_i i o hp
   obtain⟨p1,p2,p3,p4⟩:=pick_ok hp
   simp only[Bool.and_eq_true] at p3
   obtain⟨⟨q1,q2⟩,q4⟩:=p3
   have hcon:(Region.ready .any ops listed).contains i=true:=List.contains_iff_mem.2 p1
   refine guardC_ok (X:=fun s=>GH1 P N cx ops Q W (fuel+1) listed s) (fun s t b v h1 h2 h3=>GH1.lit t h1 h2 h3) hl h (fun t hl' hkp hw h'=>?_) (fun t t' hl' hkp hw hsk h'=>?_)
   ·cases hd:o.dst with
    | none=>rw[hd] at q4;cases q4
    | some d=>
     rw[hd] at h' q1
     dsimp only at h'
     have hN:d<N:=by simpa[dstN,Nat.blt_eq] using q1
     split at h'
     ·obtain⟨v,h1,h2⟩:=ylC_ok (dst:=o.dst) (ty:=o.type) (pos:=o.pos) (after:=o.after) (guard:=o.guard) hl' h'
      exact GH1.take i hpn p2 hs p4 hcon hw hd hN h1 (drawC1_ok hokW hcl hs hpn (hl'.put d v) h2 (fun t2 a1 a2 a3=>hk t2 a1 (hkp.trans ⟨a2.lo,a2.lst,a2.df⟩) a3) fun ch t2 a1 a2 a3=>hkp0 ch t2 a1 (hkp.trans ⟨a2.lo,a2.lst,a2.df⟩) a3)
     ·obtain⟨v,x,h1,h2,h3⟩:=pyC_ok (dst:=o.dst) (ty:=o.type) (pos:=o.pos) (after:=o.after) (guard:=o.guard) h'
      refine GH1.take i hpn p2 hs p4 hcon hw hd hN (h1.yield W) ?_
      rw[←putL_er t d v x]
      exact drawC1_ok hokW hcl hs hpn (putL_ok hl' d h2) h3 (fun t2 a1 a2 a3=>hk t2 a1 ((hkp.trans (putL_keep t d v x)).trans a2) a3) fun ch t2 a1 a2 a3=>hkp0 ch t2 a1 ((hkp.trans (putL_keep t d v x)).trans a2) a3
   ·cases hd:o.dst with
    | none=>rw[hd] at q4;cases q4
    | some d=>
     obtain⟨hN,e⟩:=skipT_some hd hsk
     subst e
     exact GH1.passu i hpn p2 hs p4 hcon hw hd hN (drawC1_ok hokW hcl hs hpn (hl'.put _ _) h' (fun t2 a1 a2 a3=>hk t2 a1 (hkp.trans ⟨a2.lo,a2.lst,a2.df⟩) a3) fun ch t2 a1 a2 a3=>hkp0 ch t2 a1 (hkp.trans ⟨a2.lo,a2.lst,a2.df⟩) a3)
  ·exact GH1.later (drawC2_ok hokW hcl hs hpn hl h hk hkp0)
theorem drawC_ok {id:Nat}(hm:P.follows .mixedOrders=true) (hokW:∀h,ok h=true→W.contains h=true){kp:List PanicEntry→TSt S→Option A}(hcl:ClOk P N W cl kp r){s:TSt S}{k:TSt S→Option A}(hl:LInv s) (h:drawC P N ok W ops cl s k=some r)
  (hk:∀t:TSt S,LInv t→Keep s t→k t=some r→Q .normal t.er) (hkp:∀ch (t:TSt S),LInv t→Keep s t→kp ch t=some r→∃u,Gh t.er u∧Q (.panic ch) u∧∀d,d∈dsts ops→get u.fr d=none):GW P N cx (.region id ops true) Q s.er:=by
 unfold drawC at h
 split at h
 ·rename_i hc
  simp only[Bool.and_eq_true] at hc
  refine(GW.draws (Q:=fun e s=>Q e s∧∀ch,e=.panic ch→∀d,d∈dsts ops→get s.fr d=none) W hm (drawC1_ok hokW hcl hc.1 (fun c s h d hd=>h.2 c rfl d hd) hl h (fun t a b c=>⟨hk t a b c,fun ch e=>by cases e⟩) fun ch t a b c=>?_) hc.2).mono fun e s h=>h.1
  obtain⟨u,g1,g2,g3⟩:=hkp ch t a b c
  exact⟨u,g1,g2,fun _ _=>g3⟩
 ·cases h
end
end
end Go.DN
