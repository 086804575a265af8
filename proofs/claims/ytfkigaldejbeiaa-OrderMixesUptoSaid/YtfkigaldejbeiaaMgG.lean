/-
  DN, second part.
-/
import Derived.Test.YtfkigaldejbeiaaMgC
import Derived.Test.YtfkigaldejbeiaaMgF
set_option linter.unusedSectionVars false
set_option linter.unusedSimpArgs false
set_option linter.unusedVariables false
/-
 DN,part Kd:slices of slices.
-/
namespace Go.DN
open Go.AM
def br (d:Nat):List Nat→Bool
 | []=>false
 | x::r=>bif Nat.beq x d then true else br d r
theorem bO {d:Nat}:∀{l:List Nat},br d l=true↔d∈l
 | []=>by simp[br]
 | x::r=>by
  simp only[br,aX]
  cases hb:Nat.beq x d with
  | true=>have:=aa hb;subst this;simp
  | false=>
   rw[cond_false,bO]
   constructor
   ·exact .inr
   ·rintro(e | h)
    ·subst e;rw[aH] at hb;cases hb
    ·exact h
section
variable {S:eC}
theorem gH {t:ah S}(h:t.last=[]):aY t:=fun d hh x hm=>by rw[h] at hm;cases hm
def TV.eG (h:Nat):TV S→TV S
 | .kp x τ i j=>bif Nat.beq x h then .any else .kp x τ i j
 | .fB b x τ i j=>bif Nat.beq x h&&!b then .any else .fB b x τ i j
 | .ks x τ i n=>bif Nat.beq x h then .any else .ks x τ i n
 | .agg l=>.agg (go l)
 | .bj l=>.bj (go l)
 | .aE f l=>.aE f (go l)
 | v=>v
where go:List (TV S)→List (TV S)
 | []=>[]
 | v::r=>v.eG h::go r
theorem QN {h:Nat}{m:G}(hm:Pl m) (f:Bool):AM.eG h (dq f m)=dq f m:=by
 rcases hm with ⟨u,rfl⟩ | ⟨n,cs,rfl⟩ <;> cases f <;> rfl
mutual
theorem LH (ln:Nat→Nat) (h:Nat):∀v:TV S,(v.eG h).er ln=AM.eG h (v.er ln)
 | .ab f τ a=>by
  cases τ with
  | st n=>
   show G.agg ((aL S (.st n) a).map (dq f))=.agg (AM.eG.go h ((aL S (.st n) a).map (dq f)))
   have hp:=rT (S:=S) (.st n) a
   generalize aL S (.st n) a=l at hp
   congr 1
   induction l with
   | nil=>rfl
   | cons x r ih=>
    simp only[aI,AM.eG.go]
    rw[QN (hp x av),←ih fun y hy=>hp y (ao _ hy)]
  | _=>cases f <;> rfl
 | .ptr f τ a=>by cases f <;> rfl
 | .agg l=>by show G.agg _=G.agg _;rw[vC ln h l]
 | .bj l=>by show G.bj _=G.bj _;rw[vC ln h l]
 | .aE f l=>by show G.aE _ _=G.aE _ _;rw[vC ln h l]
 | .kp x τ i j=>by
  show(bif Nat.beq x h then(TV.any:TV S) else .kp x τ i j).er ln=bif Nat.beq x h then G.any else .kp x i (j*S.sz τ)
  cases Nat.beq x h <;> rfl
 | .fB b x τ i j=>by
  cases b with
  | true=>
   show(bif Nat.beq x h&&false then _ else _:TV S).er ln=.val _
   rw[Bool.and_false];rfl
  | false=>
   show(bif Nat.beq x h&&true then _ else _:TV S).er ln=bif Nat.beq x h then G.any else .kp x i (j*S.sz τ)
   cases Nat.beq x h <;> rfl
 | .ks x τ i n=>by
  show(bif Nat.beq x h then(TV.any:TV S) else .ks x τ i n).er ln=bif Nat.beq x h then G.any else .ks x i (S.sz τ) n
  cases Nat.beq x h <;> rfl
 | .loc _ _=>rfl
 | .gI _ _ _ _=>rfl
 | .aQ _ _=>rfl
 | .sub _ _ _ _=>rfl
 | .cq _=>rfl
 | .mp _=>rfl
 | .val _=>rfl
 | .any=>rfl
theorem vC (ln:Nat→Nat) (h:Nat):∀l:List (TV S),TV.er.go ln (TV.eG.go h l)=AM.eG.go h (TV.er.go ln l)
 | []=>rfl
 | v::r=>by simp only[TV.eG.go,TV.er.go,AM.eG.go,LH ln h v,vC ln h r]
end
mutual
theorem LG {h:Nat}:∀v:TV S,v.has h=false→v.eG h=v
 | .kp x τ i j,e=>by
  show(bif Nat.beq x h then _ else _)=_
  rw[show Nat.beq x h=false from e];rfl
 | .fB b x τ i j,e=>by
  have e:(Nat.beq x h&&!b)=false:=e
  show(bif Nat.beq x h&&!b then _ else _)=_
  rw[e];rfl
 | .ks x τ i n,e=>by
  show(bif Nat.beq x h then _ else _)=_
  rw[show Nat.beq x h=false from e];rfl
 | .agg l,e=>congrArg TV.agg (vB l e)
 | .bj l,e=>congrArg TV.bj (vB l e)
 | .aE f l,e=>congrArg (TV.aE f) (vB l e)
 | .ab _ _ _,_=>rfl
 | .ptr _ _ _,_=>rfl
 | .loc _ _,_=>rfl
 | .gI _ _ _ _,_=>rfl
 | .aQ _ _,_=>rfl
 | .sub _ _ _ _,_=>rfl
 | .cq _,_=>rfl
 | .mp _,_=>rfl
 | .val _,_=>rfl
 | .any,_=>rfl
theorem vB {h:Nat}:∀l:List (TV S),TV.has.go h l=false→TV.eG.go h l=l
 | [],_=>rfl
 | v::r,e=>by
  simp only[TV.has.go,bE] at e
  simp only[TV.eG.go,LG v e.1,vB r e.2]
end
theorem yV {h t:Nat}:∀{fr:List (Nat×G)}{g:G},AM.get fr t=some g→AM.get (mu h fr) t=some (AM.eG h g)
 | [],_,e=>by cases e
 | (k,g')::r,g,e=>by
  simp only[AM.get] at e
  simp only[mu,AM.get]
  cases hb:Nat.beq k t with
  | true=>rw[hb] at e;cases e;rfl
  | false=>rw[hb] at e;exact yV e
def yU (v:TV S):List Nat→Bool
 | []=>false
 | x::r=>v.has x||yU v r
def TV.fk (h:Nat) (rm:List Nat) (v:TV S):TV S:=match yU v rm with | true=>.any | false=>v.eG h
def MV (h:Nat) (rm:List Nat):List (Nat×TV S)→List (Nat×TV S)
 | []=>[]
 | (t,v)::r=>(t,v.fk h rm)::MV h rm r
def TO.fk (h:Nat) (rm:List Nat):TO S→TO S
 | .box e m cs=>.box e m (cs.map (TV.fk h rm))
 | .lp l n cs=>.lp l n (cs.map (TV.fk h rm))
 | o=>o
def HT (h:Nat) (rm:List Nat):List (Nat×TO S)→List (Nat×TO S)
 | []=>[]
 | (t,o)::r=>match br t rm with
  | true=>HT h rm r
  | false=>(t,o.fk h rm)::HT h rm r
def ah.hand (s:ah S) (h:Nat) (rm:List Nat) (o:TO S):ah S:={s with fr:=MV h rm s.fr,st:=(h,o)::HT h rm s.st,last:=[]}
def inner (s:ah S):List Nat→Bool
 | []=>true
 | x::r=>(match aw s.bL x with | none=>true | some _=>false)&&(!(TV.has.go x s.df)&&(!(gq x s.lo)&&!(eI x s.bL)))&&inner s r
theorem Po {h:Nat}{rm:List Nat}{v:TV S}(h1:v.has h=false) (h2:yU v rm=false):v.fk h rm=v:=by
 unfold TV.fk;rw[h2];exact LG v h1
theorem Rt (h:Nat) (rm:List Nat) (o:TO S):(o.fk h rm).len=o.len:=by cases o <;> rfl
theorem Ga {h:Nat}{rm:List Nat}:∀{fr:List (Nat×TV S)}{d:Nat},bc (MV h rm fr) d=(bc fr d).map (TV.fk h rm)
 | [],_=>rfl
 | (t,v)::r,d=>by
  simp only[MV,bc]
  cases Nat.beq t d with
  | true=>rfl
  | false=>exact Ga
theorem A9 {h:Nat}{rm:List Nat}:∀{st:List (Nat×TO S)}{x:Nat},aw (HT h rm st) x=match br x rm with | true=>none | false=>(aw st x).map (TO.fk h rm)
 | [],x=>by simp only[HT,aw,Option.map_none];cases br x rm <;> rfl
 | (t,o)::r,x=>by
  simp only[HT]
  split
  ·rename_i hm
   rw[A9]
   simp only[aw]
   cases hb:Nat.beq t x with
   | true=>
    have:=aa hb
    subst this
    rw[hm]
   | false=>rfl
  ·rename_i hm
   simp only[aw]
   cases hb:Nat.beq t x with
   | true=>
    have:=aa hb
    subst this
    rw[hm];rfl
   | false=>exact A9
theorem DT {v:TV S}:∀{rm:List Nat},(∀x,x∈rm→v.has x=false)→yU v rm=false
 | [],_=>rfl
 | x::r,h=>by simp only[yU,h x av,DT fun y hy=>h y (ao _ hy),Bool.or_self]
theorem EX {v:TV S}:∀{rm:List Nat},yU v rm=false→∀x,x∈rm→v.has x=false
 | [],_,_,hm=>by cases hm
 | x::r,h,y,hm=>by
  simp only[yU,bE] at h
  rcases aX.1 hm with rfl | hm
  ·exact h.1
  ·exact EX h.2 y hm
theorem jb {s:ah S}:∀{rm:List Nat},inner s rm=true→∀x,x∈rm→aw s.bL x=none∧TV.has.go x s.df=false∧gq x s.lo=false∧eI x s.bL=false
 | [],_,_,hm=>by cases hm
 | y::r,h,x,hm=>by
  simp only[inner,aj,a6] at h
  rcases aX.1 hm with rfl | hm
  ·refine⟨?_,h.1.2.1,h.1.2.2.1,h.1.2.2.2⟩
   cases hq:aw s.bL x with
   | none=>rfl
   | some o=>rw[hq] at h;cases h.1.1
  ·exact jb h.2 x hm
theorem HO {s:ah S}{h:Nat}{rm:List Nat}{o:TO S}(hi:inner s (h::rm)=true) (hh:h∉rm) (x:Nat):aw (s.hand h rm o).bg x=bif Nat.beq h x then some o else match br x rm with | true=>none | false=>(aw s.bg x).map (TO.fk h rm):=by
 show aw ((h,o)::(HT h rm s.st++s.bL)) x=_
 simp only[aw]
 cases hb:Nat.beq h x with
 | true=>rfl
 | false=>
  simp only[cond_false]
  rw[db,A9]
  show _=match br x rm with | true=>none | false=>(aw (s.st++s.bL) x).map (TO.fk h rm)
  rw[db]
  cases hm:br x rm with
  | true=>exact(jb hi x (ao _ (bO.1 hm))).1
  | false=>
   dsimp only
   cases h1:aw s.st x with
   | some o=>rfl
   | none=>
    show aw s.bL x=(aw s.bL x).map _
    cases h2:aw s.bL x with
    | none=>rfl
    | some o2=>
     rw[bG]
     have hn:∀y,y∈h::rm→o2.has y=false:=fun y hy=>o8 h2 (jb hi y hy).2.2.2
     have hL:∀l:List (TV S),(∀y,y∈h::rm→TV.has.go y l=false)→l.map (TV.fk h rm)=l:=by
      intro l
      induction l with
      | nil=>intro _;rfl
      | cons v r ih=>
       intro hv
       have hv':∀y,y∈h::rm→v.has y=false∧TV.has.go y r=false:=fun y hy=>by
        have:=hv y hy
        simpa[TV.has.go] using this
       rw[aI,ih fun y hy=>(hv' y hy).2,Po (hv' h av).1 (DT fun y hy=>(hv' y (ao _ hy)).1)]
     cases o2 with
     | box e m cs=>simp only[TO.fk];rw[hL cs hn]
     | lp l n cs=>simp only[TO.fk];rw[hL cs hn]
     | _=>rfl
theorem Ok {s:ah S}{h:Nat}{rm:List Nat}{o:TO S}(hi:inner s (h::rm)=true) (d:Nat):bc (s.hand h rm o).bW d=(bc s.bW d).map (TV.fk h rm):=by
 show bc (MV h rm s.fr++s.lo) d=(bc (s.fr++s.lo) d).map _
 rw[jX,jX,Ga]
 cases bc s.fr d with
 | some v=>rfl
 | none=>
  show bc s.lo d=(bc s.lo d).map _
  cases h2:bc s.lo d with
  | none=>rfl
  | some v=>rw[bG,Po (ng h2 (jb hi h av).2.2.1) (DT fun y hy=>ng h2 (jb hi y (ao _ hy)).2.2.1)]
theorem DU {s:ah S}{h:Nat}{rm:List Nat}{o o':TO S}{s1:St}(ho:aw s.st h=some o) (hlen:o'.len=o.len) (hln:∀ln ln',o'.er ln=o'.er ln') (hi:inner s (h::rm)=true) (hh:h∉rm)
  (h1:s1.fr=mu h s.er.fr) (h2:aq s1.st h=some (o'.er s.ln)) (h3:∀x k0,x≠h→x∉rm→aq s.er.st x=some k0→aq s1.st x=some (qv h k0)) (h4:s1.df=AM.eG.go h s.er.df):
  Gh s1 (s.hand h rm o').er∧aY (s.hand h rm o')∧bz s (s.hand h rm o'):=by
 have hag:∀x,x∉rm→s.ln x=(s.hand h rm o').ln x:=by
  intro x hx
  show bZ s.bg x=bZ (s.hand h rm o').bg x
  unfold bZ
  rw[HO hi hh]
  cases hb:Nat.beq h x with
  | true=>
   have:=aa hb
   subst this
   rw[dQ ho];exact hlen.symm
  | false=>
   have hm:br x rm=false:=by
    cases hm:br x rm with
    | false=>rfl
    | true=>exact absurd (bO.1 hm) hx
   rw[hm]
   simp only[cond_false]
   cases aw s.bg x with
   | none=>rfl
   | some o=>exact(Rt h rm o).symm
 have hcv:∀v:TV S,CV s1.st (s.hand h rm o').er.st (AM.eG h (v.er s.ln)) ((v.fk h rm).er (s.hand h rm o').ln):=by
  intro v
  unfold TV.fk
  cases hv:yU v rm with
  | true=>exact CV.any _ _ _
  | false=>
   dsimp only
   rw[LH,oQ (ln:=s.ln) (ln':=(s.hand h rm o').ln) v fun k hk=>hag k fun hm=>by rw[EX hv k hm] at hk;cases hk]
   exact CV.refl _ _ _
 have hcvL:∀cs:List (TV S),II s1.st (s.hand h rm o').er.st (AM.eG.go h (TV.er.go s.ln cs)) (TV.er.go (s.hand h rm o').ln (cs.map (TV.fk h rm))):=by
  intro cs
  induction cs with
  | nil=>exact⟨rfl,fun j g' hg'=>by simp[TV.er.go] at hg'⟩
  | cons v r ih=>
   refine⟨by simp only[aI,TV.er.go,AM.eG.go,bN,ih.1],fun j g' hg'=>?_⟩
   simp only[aI,TV.er.go,AM.eG.go] at hg'⊢
   cases j with
   | zero=>cases hg';exact⟨_,rfl,hcv v⟩
   | succ j=>exact ih.2 j g' hg'
 refine⟨Gh.gen (fun d g' hg'=>?_) (fun x k' hk'=>?_) ?_,gH rfl,⟨rfl,rfl,rfl⟩⟩
 ·obtain⟨v',e1,rfl⟩:=xg hg'
  rw[Ok hi] at e1
  obtain⟨v,e2,rfl⟩:=au.1 e1
  refine⟨AM.eG h (v.er s.ln),?_,hcv v⟩
  rw[h1]
  exact yV (fc e2)
 ·obtain⟨o2,e1,rfl⟩:=pb hk'
  rw[HO hi hh] at e1
  cases hb:Nat.beq h x with
  | true=>
   rw[hb] at e1
   cases e1
   have:=aa hb
   subst this
   refine⟨_,h2,?_⟩
   rw[hln (s.hand h rm o').ln s.ln]
   exact ox.refl _ _ _
  | false=>
   rw[hb] at e1
   simp only[cond_false] at e1
   split at e1
   ·cases e1
   ·rename_i hm
    obtain⟨o3,e2,rfl⟩:=au.1 e1
    refine⟨_,h3 x _ (fun e=>by subst e;rw[aH] at hb;cases hb) (fun e=>by rw[bO.2 e] at hm;cases hm) (fK e2),?_⟩
    cases o3 with
    | box e m cs=>exact⟨rfl,id,rfl,rfl,rfl,(hcvL cs).1,.inr ⟨rfl,(hcvL cs).2⟩⟩
    | lp l n cs=>exact⟨rfl,id,rfl,rfl,rfl,(hcvL cs).1,.inr ⟨rfl,(hcvL cs).2⟩⟩
    | aU e m f τ l=>exact ox.refl _ _ _
    | deep e m f dk τ a=>exact ox.refl _ _ _
 ·rw[h4]
  show AM.eG.go h (TV.er.go s.ln s.df)=TV.er.go (s.hand h rm o').ln s.df
  have hd:=fun x hx=>(jb hi x hx).2.1
  rw[←vC,vB _ (hd h av)]
  exact lu _ fun k hk=>hag k fun hm=>by rw[hd k (ao _ hm)] at hk;cases hk
def wj {α:Type}:List (List α)→Bool
 | []=>true
 | []::r=>wj r
 | (_::_)::_=>false
theorem xM {α:Type}:∀{l:List (List α)},wj l=true→∀r,r∈l→r=[]
 | []::l,h,r,hm=>by
  rcases aX.1 hm with e | hm
  ·exact e
  ·exact xM (l:=l) h r hm
 | (_::_)::_,h,_,_=>by cases h
theorem ul {α:Type}:∀n:Nat,wj (List.replicate n ([]:List α))=true
 | 0=>rfl
 | n+1=>by rw[nW];exact ul n
theorem Jf (t:Ty):∀{l:List (List (S.D t))},wj l=true→(List.flatMap (aL S (.list t)) l).map (fun _=>((0,[]):Nat×List G))=List.map (fun r=>(List.length r,List.flatMap (aL S t) r)) l
 | [],_=>rfl
 | x::r,h=>by
  have hx:=xM h x av
  subst hx
  rw[cn,kx,Jf t (l:=r) h];rfl
def Fp (s:ah S) (h kty:Nat){A:Type}(k:ah S→Option A):Option A:=
 match Nat.blt h 1000&&inner s [h] with
 | true=>match aw s.st h with
  | some (.aU e m f (.list t) l)=>(bq (wj l=true)).bind fun _=>k (s.hand h [] (.deep e m f (.dG kty) (.list (.list t)) l))
  | _=>none
 | false=>none
theorem F4 {s:ah S}{h kty:Nat}{A:Type}{k:ah S→Option A}{r:A}(hl:aY s) (e:Fp s h kty k=some r):∃t,Gh s.er t.er∧aY t∧bz s t∧k t=some r:=by
 unfold Fp at e
 split at e
 ·rename_i hc
  simp only[aj] at hc
  split at e
  ·rename_i bM m f t l ho
   obtain⟨_,h1,e⟩:=bind_some e
   have h1:=cj h1
   have hk:=cO (dQ ho)
   have hcs:∀g∈((TO.aU bM m f (.list t) l:TO S).er s.ln).cells,g=.sl 0 []:=by
    intro g hg
    have hg:g∈List.flatMap (aL S (.list t)) l:=hg
    obtain⟨r,hr,hg⟩:=hZ.1 hg
    rw[xM h1 r hr] at hg
    exact cC.1 hg
   have hrows:(((TO.aU bM m f (.list t) l:TO S).er s.ln).cells.map fun _=>((0,[]):Nat×List G))=(dD (.list (.list t)) l).2:=by
    exact Jf t h1
   obtain⟨g1,g2,g3⟩:=DU (s:=s) (h:=h) (rm:=[]) (o':=.deep bM m f (.dG kty) (.list (.list t)) l)
    (s1:={fr:=mu h s.er.fr,st:=bw (jm h s.er.st) h {((TO.aU bM m f (.list t) l:TO S).er s.ln) with cells:=[],lp:=some (.deep (im bM kty (S.sz t) (dD (.list (.list t)) l).2))},df:=AM.eG.go h s.er.df})
    ho rfl (fun _ _=>rfl) hc.2 (by simp) rfl (by rw[eZ (iK hk)];rfl) (fun x k0 hx _ h0=>by show aq (bw _ _ _) _=_;rw[eM hx];exact iK h0) rfl
   refine⟨_,Gh.trans (fun N cx μ a w hr=>?_) g1,g2,g3,e⟩
   have:=hr.Ss hk rfl rfl rfl hcs (gV hc.1) kty (S.sz t)
   rw[hrows] at this
   exact this
  ·cases e
 ·cases e
def FZ (s:ah S) (h:Nat):Option (ah S):=
 match Nat.blt h 1000&&inner s [h] with
 | true=>match aw s.st h with
  | some (.deep e true f (.dG _) (.list (.list t)) l)=>some (s.hand h [] (.aU e true f (.list t) l))
  | _=>none
 | false=>none
theorem LF {s t:ah S}{h:Nat}(hl:aY s) (e:FZ s h=some t):Gh s.er t.er∧aY t∧bz s t:=by
 unfold FZ at e
 split at e
 ·rename_i hc
  simp only[aj] at hc
  split at e
  ·rename_i bM f kty t l ho
   cases e
   have hk:=cO (dQ ho)
   have hrows:(dD (.list (.list t)) l).2.map (fun r=>G.sl r.1 r.2)=List.flatMap (aL S (.list t)) l:=by
    show List.map _ (List.map _ l)=_
    clear ho hk
    induction l with
    | nil=>rfl
    | cons x r ih=>rw[aI,aI,ih,cn];rfl
   obtain⟨g1,g2,g3⟩:=DU (s:=s) (h:=h) (rm:=[]) (o':=.aU bM true f (.list t) l)
    (s1:={fr:=mu h s.er.fr,st:=bw (jm h s.er.st) h {((TO.deep bM true f (.dG kty) (.list (.list t)) l:TO S).er s.ln) with cells:=(dD (.list (.list t)) l).2.map (fun r=>G.sl r.1 r.2),lp:=none},df:=AM.eG.go h s.er.df})
    ho rfl (fun _ _=>rfl) hc.2 (by simp) rfl (by rw[eZ (iK hk),hrows];rfl) (fun x k0 hx _ h0=>by show aq (bw _ _ _) _=_;rw[eM hx];exact iK h0) rfl
   exact⟨Gh.trans (fun N cx μ a w hr=>hr.RS hk rfl rfl rfl rfl (gV hc.1)) g1,g2,g3⟩
  ·cases e
 ·cases e
def Dl (s:ah S) (h:Nat):Option (ah S):=
 none
theorem J1 {s t:ah S}{h:Nat}(hl:aY s) (e:Dl s h=some t):Gh s.er t.er∧aY t∧bz s t:=by
 unfold Dl at e
 cases e
def HD (s:ah S) (h:Nat):Bool:=match aw s.bg h with
 | some (.deep _ _ _ (.rows _ _) _ _)=>true
 | _=>false
def HG (s:ah S) (h:Nat):Bool:=match aw s.bg h with
 | some (.deep ..)=>true
 | _=>false
def zW (s:ah S) (h:Nat):Option (ah S):=
 match HG s h with
 | true=>match (match HD s h with | true=>Dl s h | false=>FZ s h) with
  | some s'=>zX s' h
  | none=>none
 | false=>zX s h
theorem CL {s t:ah S}{h:Nat}(hl:aY s) (hf:zW s h=some t):Gh s.er t.er∧aY t∧bz s t:=by
 unfold zW at hf
 split at hf
 ·split at hf
  ·rename_i s' hs
   have hs2:Gh s.er s'.er∧aY s'∧bz s s':=by
    split at hs
    ·exact J1 hl hs
    ·exact LF hl hs
   obtain⟨a1,a2,a3⟩:=hs2
   obtain⟨b1,b2,b3⟩:=CM a2 hf
   exact⟨a1.trans b1,b2,a3.trans b3⟩
  ·cases hf
 ·exact CM hl hf
def DY {A:Type}:(dk:Dk)→(τ':Ty)→S.D τ'→Ty→TypeId→Ty→(τ2:Ty)→List (S.D τ2)→Nat→(S.D τ'→Option A)→Option A
 | .dG kty,.list (.list u),ll,τ,e2,t2,τ2,l2,i,k=>match Nat.beq e2 kty with
  | true=>match decEq τ (.list u),decEq t2 u with
   | isTrue _,isTrue _=>match ir (.list τ2) (.list u) l2 with
    | some l=>(bq (i<List.length ll)).bind fun _=>k (List.set ll i l)
    | none=>none
   | _,_=>none
  | false=>none
 | _,_,_,_,_,_,_,_,_,_=>none
theorem K8 {A:Type}{r0:A}:∀{dk:Dk}{τ':Ty}{a:S.D τ'}{τ:Ty}{e2:TypeId}{t2 τ2:Ty}{l2:List (S.D τ2)}{i:Nat}{k:S.D τ'→Option A},DY dk τ' a τ e2 t2 τ2 l2 i k=some r0→
  ∃a',dk=.dG e2∧τ=.list t2∧t2=τ2∧(dD τ' a).1=S.sz τ2∧i<(dD τ' a).2.length∧k a'=some r0∧sc τ' a'=sc τ' a∧(dD τ' a').1=(dD τ' a).1∧
   (dD τ' a').2=(dD τ' a).2.set i (List.length l2,List.flatMap (aL S τ2) l2)
 | .dG kty,.list (.list u),ll,τ,e2,t2,τ2,l2,i,k,h=>by
  simp only[DY] at h
  split at h
  ·rename_i he
   have he:=aa he
   subst he
   split at h
   ·rename_i q1 q2 _ _
    subst q1;subst q2
    split at h
    ·rename_i l hl
     obtain⟨q,hl⟩:=nP hl
     subst q
     cases hl
     obtain⟨_,h1,h⟩:=bind_some h
     have h1:=cj h1
     refine⟨_,rfl,rfl,rfl,rfl,by show i<(List.map _ ll).length;rw[a5];exact h1,h,by show(List.set ll i l2).length=ll.length;exact de,rfl,?_⟩
     show List.map _ (List.set ll i l2)=List.set (List.map _ ll) i _
     rw[kB]
    ·cases h
   ·cases h
  ·cases h
 | .dG _,.list (.int _),_,_,_,_,_,_,_,_,h=>by cases h
 | .dG _,.list .bool,_,_,_,_,_,_,_,_,h=>by cases h
 | .dG _,.list .str,_,_,_,_,_,_,_,_,h=>by cases h
 | .dG _,.list (.st _),_,_,_,_,_,_,_,_,h=>by cases h
 | .dG _,.int _,_,_,_,_,_,_,_,_,h=>by cases h
 | .dG _,.bool,_,_,_,_,_,_,_,_,h=>by cases h
 | .dG _,.str,_,_,_,_,_,_,_,_,h=>by cases h
 | .dG _,.st _,_,_,_,_,_,_,_,_,h=>by cases h
def HX (P:Program) (ok:Nat→Bool) (s:ah S) (t:TypeId) (x y:Operand){A:Type}(k:ah S→Option A):Option A:=
 match cm s x with
 | some (.gI h τ i 0)=>match cm s y with
  | some (.aQ h2 t2)=>match ok h&&(ok h2&&(Nat.blt h 1000&&(!(Nat.beq h2 h)&&inner s [h,h2]))) with
   | true=>match aw s.st h with
    | some (.deep e m f dk τ' a)=>match aw s.st h2 with
     | some (.aU e2 m2 f2 τ2 l2)=>match decEq (ku P t) (some 1) with
      | isTrue _=>match !m||m2 with
       | true=>DY dk τ' a τ e2 t2 τ2 l2 i fun a'=>k (s.hand h [h2] (.deep e m (f&&f2) dk τ' a'))
       | false=>none
      | isFalse _=>none
     | _=>none
    | _=>none
   | false=>none
  | _=>none
 | _=>none
theorem MY {P:Program}{W:List Nat}{ok:Nat→Bool}(hokW:∀h,ok h=true→W.contains h=true){s:ah S}{t:TypeId}{x y:Operand}{ty:TypeId}{pos:String}{after:Array Edge}{guard:Option (Nat×Bool)}{A:Type}{k:ah S→Option A}{r:A}
  (hl:aY s) (h:HX P ok s t x y k=some r):fA P W s ⟨none,.store t x y,ty,pos,after,guard⟩ k r:=by
 unfold HX at h
 split at h
 ·rename_i hh τ i hx
  split at h
  ·rename_i h2 t2 hy
   split at h
   ·rename_i hc
    simp only[aj,a6] at hc
    obtain⟨c1,c2,c3,c4,c5⟩:=hc
    split at h
    ·rename_i e m f dk τ' a ho
     split at h
     ·rename_i e2 m2 f2 τ2 l2 ho2
      split at h
      ·rename_i hsz _
       split at h
       ·rename_i hm
        obtain⟨a',q1,q2,q3,q4,q5,q6,q7,q8,q9⟩:=K8 h
        subst q1;subst q2;subst q3
        have hk:=cO (dQ ho)
        have hk2:=cO (dQ ho2)
        have hne:hh≠h2:=fun e=>by subst e;rw[aH] at c4;cases c4
        have hkd:aq (oH s.er.st h2) hh=some _:=k5 hne hk
        have hoE:(TO.deep e m (f&&f2) (.dG e2) τ' a':TO S).er s.ln=⟨e,true,m,f&&f2,1,[],some (.deep (im e e2 (dD τ' a).1 ((dD τ' a).2.set i (List.length l2,List.flatMap (aL S t2) l2))))⟩:=by
         show ap.mk _ _ _ _ _ _ (some (.deep (im e e2 (dD τ' a').1 (dD τ' a').2)))=_
         rw[q8,q9]
        obtain⟨g1,g2,g3⟩:=DU (s:=s) (h:=hh) (rm:=[h2]) (o':=.deep e m (f&&f2) (.dG e2) τ' a')
         (s1:={fr:=mu hh s.er.fr,st:=bw (jm hh (oH s.er.st h2)) hh ⟨e,true,m,f&&f2,1,[],some (.deep (im e e2 (dD τ' a).1 ((dD τ' a).2.set i (List.length l2,List.flatMap (aL S t2) l2))))⟩,df:=AM.eG.go hh s.er.df})
         ho q7 (fun _ _=>rfl) c5 (by simpa using hne) rfl (by rw[hoE,eZ (iK hkd)]) (fun x k0 hx1 hx2 h0=>by
          show aq (bw _ _ _) _=_
          rw[eM hx1]
          exact iK (k5 (by simpa using hx2) h0)) rfl
        refine .one _ (EF.Ox (P:=P) (W:=W) (t:=t) (x:=x) (y:=y) (n:=List.length l2) (by rw[bf hx];simp[TV.er,eC.sz]) (by rw[bf hy];show some (G.aQ h2 (S.sz t2) 0 (s.ln h2))=_;rw[l6 (dQ ho2),←q4]) c4 hk rfl q5 (gV c3) hk2 rfl rfl rfl q4.symm (by rw[q4];exact B3 S t2)
         (by show(List.flatMap (aL S t2) l2).length=_;rw[eO,q4]) (fun hm'=>by
          have hm':m=true:=hm'
          rw[hm'] at hm
          exact(by simpa using hm:m2=true)) (dw hsz) (hokW _ c1) (hokW _ c2)) g1 g2 g3 q6
       ·cases h
      ·cases h
     ·cases h
    ·cases h
   ·cases h
  ·cases h
 ·cases h
mutual
theorem Pw {h:Nat}:∀g:G,g.b7 h=false→AM.eG h g=g
 | .kp x i off,e=>by
  show(bif Nat.beq x h then _ else _)=_
  rw[show Nat.beq x h=false from e];rfl
 | .ks x i sz n,e=>by
  show(bif Nat.beq x h then _ else _)=_
  rw[show Nat.beq x h=false from e];rfl
 | .agg gs,e=>congrArg G.agg (wC gs e)
 | .bj gs,e=>congrArg G.bj (wC gs e)
 | .aE f gs,e=>congrArg (G.aE f) (wC gs e)
 | .loc _ _,_=>rfl
 | .aQ _ _ _ _,_=>rfl
 | .cq _,_=>rfl
 | .dR _,_=>rfl
 | .any,_=>rfl
 | .val _,_=>rfl
 | .sl _ _,_=>rfl
 | .ptr _,_=>rfl
 | .fr _,_=>rfl
theorem wC {h:Nat}:∀gs:List G,G.b7.go h gs=false→AM.eG.go h gs=gs
 | [],_=>rfl
 | x::r,e=>by
  simp only[G.b7.go,bE] at e
  simp only[AM.eG.go,Pw x e.1,wC r e.2]
end
def D0 (P:Program) (ok:Nat→Bool) (s:ah S) (d:Nat) (t:TypeId) (n:Nat) (parts:Array (Nat×Operand)){A:Type}(k:ah S→Option A):Option A:=
 none
theorem K9 {P:Program}{W:List Nat}{ok:Nat→Bool}(hokW:∀h,ok h=true→W.contains h=true){s:ah S}{d:Nat}{t:TypeId}{n:Nat}{parts:Array (Nat×Operand)}{ty:TypeId}{pos:String}{after:Array Edge}{guard:Option (Nat×Bool)}{A:Type}{k:ah S→Option A}{r:A}
  (hl:aY s) (h:D0 P ok s d t n parts k=some r):fA P W s ⟨some d,.buildSlice t n parts,ty,pos,after,guard⟩ k r:=by
 unfold D0 at h
 cases h
def D1 (P:Program) (ok:Nat→Bool) (s:ah S) (d:Nat) (c:Call){A:Type}(k:ah S→Option A):Option A:=
 none
theorem La {P:Program}{W:List Nat}{ok:Nat→Bool}(hokW:∀h,ok h=true→W.contains h=true){s:ah S}{d:Nat}{args:Array Operand}{ts:Array TypeId}{ty:TypeId}{pos:String}{after:Array Edge}{guard:Option (Nat×Bool)}{A:Type}{k:ah S→Option A}{r:A}
  (hl:aY s) (hq:D1 P ok s d ⟨.builtin .append,args,ts⟩ k=some r):fA P W s ⟨some d,.call ⟨.builtin .append,args,ts⟩,ty,pos,after,guard⟩ k r:=by
 unfold D1 at hq
 cases hq
end
end Go.DN
/-
 DN,part Ke:slices that are written no more,slices that are adopted,slices whose end is cut off.
-/
namespace Go.DN
open Go.AM
section
variable {S:eC}
def TV.KB:TV S→List Nat
 | .aQ h _=>[h]
 | .sub h _ _ _=>[h]
 | .agg l=>go l
 | .bj l=>go l
 | _=>[]
where go:List (TV S)→List Nat
 | []=>[]
 | x::r=>x.KB++go r
def pW:List Nat→ah S→Option (ah S)
 | [],s=>some s
 | h::r,s=>match aw s.bg h with
  | none=>pW r s
  | some _=>match zW s h with
   | some s'=>pW r s'
   | none=>none
theorem lQ:∀{l:List Nat}{s t:ah S},aY s→pW l s=some t→Gh s.er t.er∧aY t∧bz s t
 | [],s,t,hl,h=>by cases h;exact⟨Gh.refl _,hl,bz.refl s⟩
 | x::r,s,t,hl,h=>by
  simp only[pW] at h
  split at h
  ·exact lQ hl h
  ·split at h
   ·rename_i s' hs
    obtain⟨a1,a2,a3⟩:=CL hl hs
    obtain⟨b1,b2,b3⟩:=lQ a2 h
    exact⟨a1.trans b1,b2,a3.trans b3⟩
   ·cases h
def KA (s:ah S):List Operand→List Nat
 | []=>[]
 | x::r=>(match cm s x with | some v=>v.KB | none=>[])++KA s r
theorem yZ {α β:Type}{f:α→List β}{z:Nat}(hf:∀a,(f a).length=z):∀(l:List α) (n:Nat),List.flatMap f (l.take n)=(List.flatMap f l).take (n*z)
 | [],n=>by simp
 | x::r,0=>by simp
 | x::r,n+1=>by
  simp only[List.take_succ_cons,cn]
  have e1:(n+1)*z-z=n*z:=by rw[Nat.succ_mul];omega
  have e2:(f x).length≤(n+1)*z:=by rw[hf x,Nat.succ_mul];omega
  rw[yZ hf r n,List.take_append,hf x,e1,b6 (l:=f x) e2]
theorem Gh.wq {s:St}(hh j hd:Nat) (e:TypeId) (sz:Nat){k:ap}(hk:aq s.st hh=some k) (hp:k.pure=false) (hj:k.cells[j]?=some (.val (.slice none 0 0))) (hf:fresh s hd=true) (hlp:k.lp=none):
  Gh s {fr:=s.fr,st:=bw ((hd,⟨e,true,true,true,sz,[],none⟩)::s.st) hh {k with cells:=k.cells.set j (.aQ hd sz 0 0)},df:=s.df}:=fun N cx μ a w h=>by
 have h1:=h.vQ hd ⟨e,true,true,true,sz,[],none⟩ hf rfl rfl
 have hne:hh≠hd:=fun e=>by
  subst e
  obtain⟨h2,_⟩:=eY hf
  rw[hk] at h2;cases h2
 have hk2:aq ((hd,(⟨e,true,true,true,sz,[],none⟩:ap))::s.st) hh=some k:=by rw[aD _ _ hne];exact hk
 refine⟨_,h1.vI (s:={fr:=s.fr,st:=(hd,⟨e,true,true,true,sz,[],none⟩)::s.st,df:=s.df}) hk2 rfl rfl rfl (by simp) hlp hlp fun i g' hg'=>?_,Gh.same fun x k1 b m hx hm=>?_⟩
 ·simp only[dI] at hg'
  by_cases e:j=i
  ·subst e
   rw[if_pos rfl] at hg'
   split at hg'
   ·cases hg'
    refine⟨_,hj,fun v hv=>?_⟩
    unfold cw at hv⊢
    simp only[hp] at hv⊢
    cases hv with
    | aG hv=>cases hv;exact .eN hd sz (bu _ _ _)
   ·cases hg'
  ·rw[if_neg e] at hg'
   refine⟨g',hg',fun v hv=>?_⟩
   unfold cw at hv⊢
   exact hv
 ·by_cases e1:x=hd
  ·subst e1;rw[bu] at hm;cases hm
  ·rw[aS e1] at hm
   rcases cH hk2 hx with ⟨e2,_⟩ | ⟨e2,h3⟩
   ·subst e2;exact⟨k,hk,hm⟩
   ·rw[aD _ _ e1] at h3;exact⟨k1,h3,hm⟩
theorem Nl {s:ah S}{h j hd:Nat}{e e':TypeId}{m:Bool}{cs:List (TV S)}{τ:Ty}(hl:aY s) (ho:aw s.st h=some (.box e' m cs)) (hj:cs[j]?=some (.val (.slice none 0 0))) (hf:s.free hd=true):
  Gh s.er ((s.add hd (.aU e true true τ [])).set h (.box e' m (cs.set j (.aQ hd τ)))).er∧aY ((s.add hd (.aU e true true τ [])).set h (.box e' m (cs.set j (.aQ hd τ)))):=by
 obtain⟨e1,hag⟩:=ow hf (.aU e true true τ ([]:List (S.D τ))) rfl
 obtain⟨f1,f2,f3,f4,f5⟩:=free_spec hf
 have hne:h≠hd:=fun e=>by subst e;rw[dQ ho] at f1;cases f1
 have hne':Nat.beq hd h=false:=by
  cases hb:Nat.beq hd h with
  | false=>rfl
  | true=>exact absurd (aa hb).symm hne
 have ho2:aw (s.add hd (.aU e true true τ [])).st h=some (.box e' m cs):=by
  show aw ((hd,_)::s.st) h=_
  simp only[aw,hne',cond_false];exact ho
 obtain⟨g1,_⟩:=k6 (o':=.box e' m (cs.set j (.aQ hd τ))) ho2 rfl
 refine⟨?_,(hl.add (.aU e true true τ []) hf).set ho2 _⟩
 rw[g1,e1]
 have hcs:TV.has.go hd cs=false:=by
  have:=o8 (dQ ho) f3
  exact this
 have e3:(TO.box e' m (cs.set j (.aQ hd τ)):TO S).er (s.add hd (.aU e true true τ [])).ln={(TO.box e' m cs:TO S).er s.ln with cells:=((TO.box e' m cs:TO S).er s.ln).cells.set j (.aQ hd (S.sz τ) 0 0)}:=by
  have e4:TV.er.go (s.add hd (.aU e true true τ [])).ln (cs.set j (.aQ hd τ))=(TV.er.go s.ln cs).set j (.aQ hd (S.sz τ) 0 0):=by
   rw[cR,kB,←cR,←oM hag cs hcs]
   congr 1
   show G.aQ _ _ _ ((s.add hd _).ln hd)=_
   rw[show(s.add hd (.aU e true true τ [])).ln hd=_ from tL _ _];rfl
  show ap.mk _ _ _ _ _ _ _=ap.mk _ _ _ _ _ _ _
  rw[e4];rfl
 rw[e3]
 exact Gh.wq (s:=s.er) h j hd e (S.sz τ) (fK (dQ ho)) rfl (by show(TV.er.go s.ln cs)[j]?=_;rw[cR,ay,hj];rfl) (gn hf) rfl
def D4 (h:Nat):List (Nat×TO S)→List (Nat×TO S)
 | []=>[]
 | (k,o)::r=>bif Nat.beq k h then D4 h r else(k,o)::D4 h r
theorem xq {h x:Nat}(hx:x≠h):∀{st:List (Nat×TO S)},aw (D4 h st) x=aw st x
 | []=>rfl
 | (k,o)::r=>by
  simp only[D4,aw]
  cases hb:Nat.beq k h with
  | true=>
   have:=aa hb
   subst this
   have h2:Nat.beq k x=false:=by
    cases h3:Nat.beq k x with
    | false=>rfl
    | true=>exact absurd (aa h3).symm hx
   rw[h2]
   exact xq hx
  | false=>
   simp only[cond_false,aw]
   cases Nat.beq k x with
   | true=>rfl
   | false=>exact xq hx
def ah.p5 (s:ah S) (h:Nat):ah S:={s with st:=D4 h s.st,last:=yx h s.last}
theorem OC {s:ah S}{h:Nat}(hl:aY s) (hf:(s.p5 h).free h=true):Gh s.er (s.p5 h).er∧aY (s.p5 h)∧bz s (s.p5 h):=by
 obtain⟨f1,f2,f3,f4,_⟩:=free_spec hf
 have hst:∀x,x≠h→aw (s.p5 h).bg x=aw s.bg x:=by
  intro x hx
  show aw (D4 h s.st++s.bL) x=aw (s.st++s.bL) x
  rw[db,db,xq hx]
 have hag:jy s.ln (s.p5 h).ln h:=by
  intro x hx
  show bZ s.bg x=bZ (s.p5 h).bg x
  unfold bZ
  rw[hst x hx]
 have hone:∀o:TO S,o.has h=false→ox s.er.st (s.p5 h).er.st (o.er s.ln) (o.er (s.p5 h).ln):=by
  intro o ho
  rw[TO.qQ hag o ho]
  exact ox.refl _ _ _
 refine⟨Gh.rp (fun d v' hv'=>⟨v',hv',?_⟩) (fun x o' ho'=>?_) (oM hag s.df f4),?_,⟨rfl,rfl,rfl⟩⟩
 ·rw[qQ hag v' (ng hv' f2)]
  exact CV.refl _ _ _
 ·have hx:x≠h:=fun e=>by subst e;rw[f1] at ho';cases ho'
  exact⟨o',by rw[←hst x hx];exact ho',hone o' (o8 ho' f3)⟩
 ·intro d hh x hm
  obtain⟨h1,h2⟩:=tc hm
  obtain⟨i,bM,m,f',τ',l',a,e1,e2,e3⟩:=hl d hh x h1
  exact⟨i,bM,m,f',τ',l',a,e1,(hst hh h2).trans e2,e3⟩
def rz (s:ah S) (h:Nat):ah S:=match s.free h with
 | true=>s
 | false=>match (s.p5 h).free h with
  | true=>s.p5 h
  | false=>s
theorem HR {s:ah S}(h:Nat) (hl:aY s):Gh s.er (rz s h).er∧aY (rz s h)∧bz s (rz s h):=by
 unfold rz
 split
 ·exact⟨Gh.refl _,hl,bz.refl s⟩
 ·split
  ·rename_i hf
   exact OC hl hf
  ·exact⟨Gh.refl _,hl,bz.refl s⟩
theorem Rel.shrink {N:Nat}{cx:Cx}{s:St}{μ:Mu}{a:Act}{w:World}(hr:Rel N cx μ s a w){h d n c:Nat}{k:ap}(hk:aq s.st h=some k) (hp:k.pure=true) (hlp:k.lp=none) (hd:get s.fr d=some (.aQ h k.sz 0 n)):
  Rel N cx μ {fr:=(d,.aQ h k.sz 0 n)::nb h s.fr,st:=(h,{k with cells:=k.cells.take c})::gr h s.st,df:=s.df} a w:=by
 have key:∀x k1,aq ((h,{k with cells:=k.cells.take c})::gr h s.st) x=some k1→∃k0,aq s.st x=some k0:=by
  intro x k1 h1
  by_cases e:x=h
  ·subst e;exact⟨k,hk⟩
  ·rw[aD _ _ e] at h1
   obtain⟨k0,h2,_⟩:=dx h1
   exact⟨k0,h2⟩
 have hO:∀b,¬cx.O s.st μ b→¬cx.O ((h,{k with cells:=k.cells.take c})::gr h s.st) μ b:=by
  rintro b hn (ho | ⟨x,k1,c1,m,h1,h2,hi⟩)
  ·exact hn (.inl ho)
  ·obtain⟨k0,h3⟩:=key x k1 h1
   exact hn (.inr ⟨x,k0,c1,m,h3,h2,hi⟩)
 refine {st:={c8:=?_,cB:=?_,bR:=?_,dZ:=?_,dY:=hr.st.dY,hb:=hr.st.hb,os:=hr.st.os,tape:=hr.st.tape,output:=hr.st.output,cY:=hr.st.cY},nd:=hr.nd.mono (Kept.refl _ _) (fun b _=>hO b),sz:=hr.sz,fr:=?_}
 ·intro x k1 h1
  by_cases e:x=h
  ·subst e
   rw[dm] at h1
   cases h1
   have h3:=hr.st.c8 x k hk
   cases hm:μ x with
   | none=>rw[hm] at h3;exact .nil (by simp[h3.1]) hlp
   | some bm=>
    obtain⟨b,m⟩:=bm
    rw[hm] at h3
    obtain⟨cs,q1,q2,q3,q4,q5,q6⟩:=h3.cells hlp
    refine .mk hlp (h3.kh hlp) ⟨cs,q1,q2,by simp only[aV];omega,q4,q5,fun j g hg=>?_⟩
    have hg':k.cells[j]?=some g:=by
     have hg:(k.cells.take c)[j]?=some g:=hg
     rw[a9] at hg
     split at hg
     ·exact hg
     ·cases hg
    obtain⟨v,hv,hrv⟩:=q6 j g hg'
    refine⟨v,hv,?_⟩
    have:=hrv.mono (O':=cx.O ((x,{k with cells:=k.cells.take c})::gr x s.st) μ) (Kept.refl _ _) (fun b _=>hO b)
    unfold cw at this⊢
    exact this
  ·rw[aD _ _ e] at h1
   obtain⟨k0,h2,rfl⟩:=dx h1
   exact((hr.st.c8 x k0 h2).mono (fun _ _ _ _ _=>rfl) (Kept.refl _ _) (fun b _=>hO b)).kill h fun _ _=>rfl
 ·intro x x' k1 k2 y b m b2 m2 h1 h2
  obtain⟨k0,h5⟩:=key x k1 h1
  obtain⟨k0',h5'⟩:=key x' k2 h2
  exact hr.st.cB x x' k0 k0' y b m b2 m2 h5 h5'
 ·intro x k1 b m y h1 h2 hi
  by_cases e:x=h
  ·subst e
   rw[dm] at h1
   cases h1
   exact hr.st.bR x k b m y hk h2 hi
  ·rw[aD _ _ e] at h1
   obtain⟨k0,h5,rfl⟩:=dx h1
   obtain⟨a1,a2,a3,a4⟩:=hr.st.bR x k0 b m y h5 h2 hi
   exact⟨a1,a2,a3,fun hm=>a4 (by cases hp:k0.pure <;> simp only[hp] at hm <;> exact hm)⟩
 ·intro x k1 h1 h2
  obtain⟨k0,h5⟩:=key x k1 h1
  exact hr.st.dZ x k0 h5 h2
 ·intro t g hg
  rw[gF] at hg
  cases hb:Nat.beq d t with
  | true=>
   rw[hb] at hg
   cases hg
   have:=aa hb
   subst this
   obtain⟨v,hv,hrv⟩:=hr.fr d _ hd
   exact⟨v,hv,hrv.mono (Kept.refl _ _) (fun b _=>hO b) (az _)⟩
  | false=>
   rw[hb] at hg
   obtain⟨g0,h1,rfl⟩:=xf hg
   obtain⟨v,hv,hrv⟩:=hr.fr t g0 h1
   exact⟨v,hv,pS (hrv.mono (Kept.refl _ _) (fun b _=>hO b) (az _)) fun k hk=>rfl⟩
def yi (s:ah S) (x:Operand){A:Type}(k:ah S→Option A):Option A:=
 match x with
 | .tmp t=>match bc s.bW t with
  | some (.sub h τ 0 n)=>match aw s.st h with
   | some (.aU e m f τ' l)=>match decEq τ' τ with
    | isTrue _=>match !(gq h s.lo)&&(!(eI h s.bL)&&!(TV.has.go h s.df)) with
     | true=>(bq (n≤l.length)).bind fun _=>k ((s.renew h (.aU e m f τ' (l.take n))).put t (.aQ h τ'))
     | false=>none
    | isFalse _=>none
   | _=>none
  | _=>k s
 | _=>k s
theorem yh {s:ah S}{x:Operand}{A:Type}{k:ah S→Option A}{r:A}(hl:aY s) (h:yi s x k=some r):∃t,Gh s.er t.er∧aY t∧bz s t∧k t=some r:=by
 unfold yi at h
 split at h
 ·rename_i t
  split at h
  ·rename_i hh τ n hx
   split at h
   ·rename_i e m f τ' l ho
    split at h
    ·rename_i e1 _
     subst e1
     split at h
     ·rename_i hc
      simp only[aj,a6] at hc
      obtain⟨hlo,hls,hdf⟩:=hc
      obtain⟨_,hck,hk⟩:=bind_some h
      have hn:n≤l.length:=cj hck
      refine⟨_,?_,(hl.renew hh (.aU e m f τ' (l.take n)) hlo hls).put t (.aQ hh τ'),⟨rfl,rfl,rfl⟩,hk⟩
      obtain⟨e1,_,e3⟩:=GI (.aU e m f τ' (l.take n)) rfl hdf hlo hls
      rw[fC,e1]
      have e4:(TV.aQ hh τ':TV S).er (s.renew hh (.aU e m f τ' (l.take n))).ln=.aQ hh (S.sz τ') 0 n:=by
       show G.aQ _ _ _ ((s.renew hh _).ln hh)=_
       rw[e3]
       show G.aQ _ _ _ (l.take n).length=_
       rw[aV,dt hn]
      rw[e4]
      have e5:(TO.aU e m f τ' (l.take n):TO S).er s.ln={(TO.aU e m f τ' l:TO S).er s.ln with cells:=((TO.aU e m f τ' l:TO S).er s.ln).cells.take (n*S.sz τ')}:=by
       show ap.mk _ _ _ _ _ _ _=ap.mk _ _ _ _ _ _ _
       have:List.flatMap (aL S τ') (l.take n)=(List.flatMap (aL S τ') l).take (n*S.sz τ'):=yZ (fun a=>qR S τ' a) l n
       rw[this];rfl
      rw[e5]
      have e6:AM.get (gf s.ln s.bW) t=some (G.aQ hh (S.sz τ') 0 n):=by
       rw[fc hx]
       show some (G.aQ _ _ (0*S.sz τ') _)=_
       rw[ew]
      intro N cx μ a w hr
      exact⟨μ,Rel.shrink hr (fK (dQ ho)) rfl rfl e6,Gh.same fun x k1 b m' h1 h2=>by
       by_cases e:x=hh
       ·subst e;exact⟨_,fK (dQ ho),h2⟩
       ·have h1:aq ((hh,_)::gr hh s.er.st) x=some k1:=h1
        rw[aD _ _ e] at h1
        obtain⟨k0,h3,_⟩:=dx h1
        exact⟨k0,h3,h2⟩⟩
     ·cases h
    ·cases h
   ·cases h
  ·exact⟨s,Gh.refl _,hl,bz.refl s,h⟩
 ·exact⟨s,Gh.refl _,hl,bz.refl s,h⟩
end
end Go.DN
/-
 DN,part Kc:copy.
-/
namespace Go.DN
open Go.AM
def iF {α:Type}(l m:List α) (o n:Nat):List α:=l.take o++m.take (Nat.min m.length n)++l.drop (o+Nat.min m.length n)
theorem p8 {α:Type}{l m:List α}{o n:Nat}(h:o+n≤l.length):(iF l m o n).length=l.length:=by
 have h1:Nat.min m.length n≤m.length:=Nat.min_le_left _ _
 have h2:Nat.min m.length n≤n:=Nat.min_le_right _ _
 simp only[iF,ak,aV,cp]
 omega
theorem xw {α:Type}{l m:List α}{o n:Nat}(h:Nat.min m.length n=0):iF l m o n=l:=by
 unfold iF
 rw[h,List.take_zero,b9,di,List.take_append_drop]
section
variable {S:eC}
def FK (ok:Nat→Bool) (s:ah S) (d h:Nat) (τ:Ty) (o n:Nat) (vy:TV S){A:Type}(k:ah S→Option A):Option A:=
 match ok h with
 | true=>match aw s.st h with
  | some (.aU e m f τ' l)=>match decEq τ' τ with
   | isTrue _=>match decEq (S.sz τ') 1 with
    | isTrue _=>match Ki s h τ' vy with
     | some (fy,ml)=>Kj s vy ((bq (o+n≤List.length l)).bind fun _=>
       k ((s.set h (.aU e m (f&&(fy||τ'.fX)) τ' (iF l ml o n))).put d (.ab true (.int .i64) (Nat.min (List.length ml) n:Nat))))
     | none=>none
    | isFalse _=>none
   | isFalse _=>none
  | _=>none
 | false=>none
def Lf (P:Program) (ok:Nat→Bool) (s:ah S) (d:Nat) (c:Call){A:Type}(k:ah S→Option A):Option A:=
 match c.args.toList,c.argTypes.toList with
 | [x,y],[t,t']=>match P.underlying t with
  | some (.slice e)=>match decEq ((P.info? e).map (·.size)) (some 1) with
   | isTrue _=>match cm s y with
    | some vy=>match cm s x with
     | some (.aQ h τ)=>match aw s.bg h with
      | some (.aU _ _ _ _ l)=>FK ok s d h τ 0 (List.length l) vy k
      | _=>none
     | some (.sub h τ o n)=>FK ok s d h τ o n vy k
     | _=>none
    | none=>none
   | isFalse _=>none
  | _=>none
 | _,_=>none
section
variable {P:Program}{W:List Nat}{s:ah S}{ty:TypeId}{pos:String}{after:Array Edge}{guard:Option (Nat×Bool)}{A:Type}{k:ah S→Option A}{r:A}
theorem uC {st:List (Nat×ap)}{h:Nat}{b:ap}(hb:aq st h=some b):bw st h b=st:=by
 induction st with
 | nil=>cases hb
 | cons x r ih=>
  obtain⟨y,g⟩:=x
  simp only[aq] at hb
  simp only[bw]
  cases hy:Nat.beq y h with
  | true=>rw[hy] at hb;cases hb;rfl
  | false=>rw[hy] at hb;rw[cond_false,ih hb]
theorem LQ {st:List (Nat×ap)}{h:Nat}{a b:ap}:bw (bw st h a) h b=bw st h b:=by
 induction st with
 | nil=>rfl
 | cons x r ih=>
  obtain⟨y,g⟩:=x
  simp only[bw]
  cases hy:Nat.beq y h with
  | true=>simp only[cond_true,bw,hy]
  | false=>simp only[cond_false,bw,hy,ih]
theorem Ik {ok:Nat→Bool}(hokW:∀h,ok h=true→W.contains h=true){d h o n:Nat}{τ:Ty}{t t' e0:TypeId}{x y:Operand}{vy:TV S}(hl:aY s) (hx:ev s.er x=some (.aQ h (S.sz τ) (o*S.sz τ) n)) (hy:cm s y=some vy)
  (ht:P.underlying t=some (.slice e0)) (hi:(P.info? e0).map (·.size)=some 1) (hk:FK ok s d h τ o n vy k=some r):
  fA P W s ⟨some d,.call ⟨.builtin .copy,#[x,y],#[t,t']⟩,ty,pos,after,guard⟩ k r:=by
 unfold FK at hk
 split at hk
 ·rename_i hW
  split at hk
  ·rename_i e m f τ' l ho
   split at hk
   ·rename_i e1 _
    subst e1
    split at hk
    ·rename_i hsz _
     split at hk
     ·rename_i fy ml hsr
      obtain⟨g1,g2,hk⟩:=I1 hsr hk
      obtain⟨u,hck,hk⟩:=bind_some hk
      have c1:=cj hck
      have ho':=cO (dQ ho)
      have hx':ev s.er x=some (.aQ h 1 o n):=by rw[hx,hsz,dX]
      have hlen:(List.flatMap (aL S τ') l).length=l.length:=by rw[eO,hsz,dX]
      have hlenm:(List.flatMap (aL S τ') ml).length=ml.length:=by rw[eO,hsz,dX]
      have tk:∀(l:List (S.D τ')) (i:Nat),(List.flatMap (aL S τ') l).take i=List.flatMap (aL S τ') (l.take i):=fun l i=>by
       have:=nN τ' l i;rwa[hsz,dX] at this
      have dp:∀(l:List (S.D τ')) (i:Nat),(List.flatMap (aL S τ') l).drop i=List.flatMap (aL S τ') (l.drop i):=fun l i=>by
       have:=nO τ' l i;rwa[hsz,dX] at this
      have hc:(List.flatMap (aL S τ') l).take o++(List.flatMap (aL S τ') ml).take (Nat.min ml.length n)++(List.flatMap (aL S τ') l).drop (o+Nat.min ml.length n)=List.flatMap (aL S τ') (iF l ml o n):=by
       rw[tk,tk,dp,←iE,←iE];rfl
      have hln:(TO.aU e m (f&&(fy||τ'.fX)) τ' (iF l ml o n):TO S).len=(TO.aU e m f τ' l:TO S).len:=p8 c1
      obtain⟨e2,e3⟩:=k6 (o':=.aU e m (f&&(fy||τ'.fX)) τ' (iF l ml o n)) ho hln
      refine⟨_,EF.copy (f:=fy) hx' (bf hy) ho' rfl (by show o+n≤(List.flatMap (aL S τ') l).length;rw[hlen];exact c1) (by rw[←hsz];exact g1) (by rw[hlenm,dX]) (fun g hg=>by
       obtain⟨a,ha,hg⟩:=hZ.1 hg
       exact pn S τ' a g hg) ht hi (hokW h hW) rfl,fun s' hs'=>⟨_,?_,(hl.set ho _).put _ _,⟨rfl,rfl,rfl⟩,hk⟩⟩
      rcases hs' with hs' | ⟨h0,hs'⟩
      ·subst hs'
       rw[fC,e2]
       show Gh ⟨(d,.val (.int .i64 ((Nat.min ml.length n:Nat):Int)))::s.er.fr,bw s.er.st h ⟨e,true,m,f&&fy,S.sz τ',(List.flatMap (aL S τ') l).take o++(List.flatMap (aL S τ') ml).take (Nat.min ml.length n)++(List.flatMap (aL S τ') l).drop (o+Nat.min ml.length n),none⟩,s.er.df⟩ ⟨(d,.val (.int .i64 ((Nat.min ml.length n:Nat):Int)))::s.er.fr,bw s.er.st h ⟨e,true,m,f&&(fy||τ'.fX),S.sz τ',List.flatMap (aL S τ') (iF l ml o n),none⟩,s.er.df⟩
       rw[hc]
       cases hs:τ'.fX with
       | false=>rw[Bool.or_false];exact Gh.refl _
       | true=>
        cases f with
        | false=>exact Gh.refl _
        | true=>
         rw[Bool.or_true,Bool.true_and,Bool.true_and]
         have hk1:aq (bw s.er.st h (⟨e,true,m,fy,S.sz τ',List.flatMap (aL S τ') (iF l ml o n),none⟩:ap)) h=some ⟨e,true,m,fy,S.sz τ',List.flatMap (aL S τ') (iF l ml o n),none⟩:=eZ ho'
         have:=Gh.fX (S:=S) (s:=⟨(d,.val (.int .i64 ((Nat.min ml.length n:Nat):Int)))::s.er.fr,bw s.er.st h (⟨e,true,m,fy,S.sz τ',List.flatMap (aL S τ') (iF l ml o n),none⟩:ap),s.er.df⟩) hs hk1 rfl rfl rfl
         rw[LQ] at this
         exact this
      ·subst hs'
       rw[fC,e2]
       have hval:(TV.ab true (.int .i64) ((Nat.min ml.length n:Nat):Int):TV S).er (s.set h (.aU e m (f&&(fy||τ'.fX)) τ' (iF l ml o n))).ln=.val (.int .i64 0):=by rw[h0];rfl
       rw[hval]
       refine Gh.gen (s:=s.er.put d (.val (.int .i64 0))) (fun x g' hg=>⟨g',hg,CV.refl _ _ _⟩) (fun x k' hk'=>?_) rfl
       rcases cH ho' hk' with ⟨rfl,rfl⟩ | ⟨_,hk'⟩
       ·refine⟨_,ho',rfl,id,rfl,rfl,rfl,?_,.inl ⟨rfl,?_,fun hf=>by simp[TO.er] at hf;exact .inl hf.1⟩⟩
        ·show(List.flatMap (aL S τ') (iF l ml o n)).length=(List.flatMap (aL S τ') l).length
         rw[xw h0]
        ·show List.flatMap (aL S τ') (iF l ml o n)=List.flatMap (aL S τ') l
         rw[xw h0]
       ·exact⟨k',hk',ox.refl _ _ _⟩
     ·cases hk
    ·cases hk
   ·cases hk
  ·cases hk
 ·cases hk
theorem OH {ok:Nat→Bool}(hokW:∀h,ok h=true→W.contains h=true){d:Nat}{args:Array Operand}{ts:Array TypeId}(hl:aY s) (h:Lf P ok s d ⟨.builtin .copy,args,ts⟩ k=some r):
  fA P W s ⟨some d,.call ⟨.builtin .copy,args,ts⟩,ty,pos,after,guard⟩ k r:=by
 unfold Lf at h
 dsimp only at h
 split at h
 ·rename_i h1 h2
  have h1:=ma h1
  have h2:=ma h2
  subst h1;subst h2
  split at h
  ·rename_i hu
   split at h
   ·rename_i hi _
    split at h
    ·rename_i hy
     split at h
     ·rename_i hh τ hx
      split at h
      ·rename_i ho
       refine Ik hokW hl ?_ hy hu hi h
       rw[bf hx,ew]
       show some (G.aQ _ _ _ (s.ln hh))=_
       rw[l6 ho]
      ·cases h
     ·rename_i hx
      exact Ik hokW hl (bf hx) hy hu hi h
     ·cases h
    ·cases h
   ·cases h
  ·cases h
 ·cases h
end
end
end Go.DN
/-
 DN,part Kf:append within an object,clear.
-/
namespace Go.AM
theorem Lw {α:Type}[aK α]{x:α}{z:Array Value}(hzs:z.size=aK.sz α) (he:z.toList.map iB=aK.cells x) (n:Nat):(Builtin.zeroCells z n).toList.map iB=cU (List.replicate n x):=by
 have hpos:0<aK.sz α:=aK.pos
 apply kC
 intro j
 unfold cU
 rw[oq aK.cells (aK.sz α) hpos (List.replicate n x) (fun a _=>aK.len a) j,fS]
 by_cases hj:j/aK.sz α<n
 ·rw[if_pos hj,ae,←he]
  have hjn:j<n*aK.sz α:=(Nat.div_lt_iff_lt_mul hpos).1 hj
  have hlt:j%aK.sz α<z.size:=by rw[hzs];exact mK _ hpos
  have e1:z[j%aK.sz α]! =z[j%aK.sz α]:=by simp[hlt]
  have e2:z[j%aK.sz α]?=some z[j%aK.sz α]:=kq hlt
  simp only[Builtin.zeroCells,hzs,eg,Array.toList_range,ay,jE hjn,bG,bn,e1,e2]
 ·rw[if_neg hj,Option.bind_none]
  have hjn:¬j<n*aK.sz α:=fun h=>hj ((Nat.div_lt_iff_lt_mul hpos).2 h)
  simp[Builtin.zeroCells,hzs,hjn]
end Go.AM
namespace Go.DN
open Go.AM
section
variable {S:eC}
def Rl (s:ah S):List Operand→Bool
 | [x,y]=>match cm s x with
  | some (.sub h _ _ _)=>match cm s y with
   | some (.sub h2 _ _ _)=>Nat.beq h2 h
   | _=>false
  | _=>false
 | _=>false
def Ix (P:Program) (ok:Nat→Bool) (s:ah S) (d:Nat) (c:Call){A:Type}(k:ah S→Option A):Option A:=
 match c.args.toList,c.argTypes.toList with
 | [x,y],[t,t']=>match decEq t t' with
  | isFalse _=>none
  | isTrue _=>match P.underlying t with
   | some (.slice e0)=>match cm s x with
    | some (.sub h τ o0 n)=>match cm s y with
     | some (.sub h2 τ2 o m)=>match decEq h2 h with
      | isFalse _=>none
      | isTrue _=>match ok h with
       | false=>none
       | true=>match aw s.st h with
        | some (.aU e mi f τ' l)=>match decEq τ' τ,decEq e e0,decEq τ' τ2 with
         | isTrue _,isTrue _,isTrue _=>match decEq ((P.info? e0).map (·.size)) (some (S.sz τ')) with
          | isTrue _=>(bq (o0=0∧n+m≤List.length l∧o+m≤List.length l)).bind fun _=>
           k ((s.set h (.aU e mi f τ' (iF l ((List.drop o l).take m) n m))).put d (.sub h τ 0 (n+m)))
          | isFalse _=>none
         | _,_,_=>none
        | _=>none
     | _=>none
    | _=>none
   | _=>none
 | _,_=>none
def Im (P:Program) (ok:Nat→Bool) (s:ah S) (c:Call){A:Type}(k:ah S→Option A):Option A:=
 match c.args.toList,c.argTypes.toList with
 | [x],[t]=>match P.underlying t with
  | some (.slice e0)=>match cm s x with
   | some (.sub h τ o n)=>match ok h with
    | false=>none
    | true=>match aw s.st h with
     | some (.aU e mi f τ' l)=>match decEq τ' τ with
      | isTrue _=>match P.info? e0 with
       | some i=>match i.zero with
        | some z=>match Fo τ' z with
         | some a=>(bq (o+n≤List.length l)).bind fun _=>k (s.set h (.aU e mi f τ' (iF l (List.replicate n a) o n)))
         | none=>none
        | none=>none
       | none=>none
      | isFalse _=>none
     | _=>none
   | _=>none
  | _=>none
 | _,_=>none
section
variable {P:Program}{W:List Nat}{s:ah S}{ty:TypeId}{pos:String}{after:Array Edge}{guard:Option (Nat×Bool)}{A:Type}{k:ah S→Option A}{r:A}
theorem Ni {ok:Nat→Bool}(hokW:∀h,ok h=true→W.contains h=true){d:Nat}{args:Array Operand}{ts:Array TypeId}(hl:aY s) (h:Ix P ok s d ⟨.builtin .append,args,ts⟩ k=some r):
  fA P W s ⟨some d,.call ⟨.builtin .append,args,ts⟩,ty,pos,after,guard⟩ k r:=by
 unfold Ix at h
 dsimp only at h
 split at h
 ·rename_i x y t t' h1 h2
  have h1:=ma h1
  have h2:=ma h2
  subst h1;subst h2
  split at h
  ·cases h
  ·rename_i e1 _
   subst e1
   split at h
   ·rename_i e0 hu
    split at h
    ·rename_i hh τ o0 n hx
     split at h
     ·rename_i h2 τ2 o m hy
      split at h
      ·cases h
      ·rename_i e1 _
       subst e1
       split at h
       ·cases h
       ·rename_i hW
        split at h
        ·rename_i e mi f τ' l ho
         split at h
         ·rename_i e1 e2 e3 _ _ _
          subst e1;subst e2;subst e3
          split at h
          ·rename_i hi _
           obtain⟨u,hck,hkk⟩:=bind_some h
           obtain⟨c0,c1,c2⟩:=cj hck
           subst c0
           have ho':=cO (dQ ho)
           have hs0:0<S.sz τ':=@aK.pos _ (jC S τ')
           have hx':ev s.er x=some (.aQ h2 (S.sz τ') 0 n):=by have:=bf hx;rw[this];show some (G.aQ _ _ (0*_) _)=_;rw[ew]
           have hlm:((l.drop o).take m).length=m:=by rw[aV,cp];omega
           have hmin:Nat.min ((l.drop o).take m).length m=m:=by rw[hlm];exact Nat.min_self m
           have hcut:((List.flatMap (aL S τ') l).drop (o*S.sz τ')).take (m*S.sz τ')=List.flatMap (aL S τ') ((l.drop o).take m):=by rw[nO,nN]
           have hc:(List.flatMap (aL S τ') l).take (n*S.sz τ')++List.flatMap (aL S τ') ((l.drop o).take m)++(List.flatMap (aL S τ') l).drop (n*S.sz τ'+(List.flatMap (aL S τ') ((l.drop o).take m)).length)=List.flatMap (aL S τ') (iF l ((l.drop o).take m) n m):=by
            rw[eO,hlm,←dA,nN,nO,←iE,←iE]
            unfold iF
            rw[hmin]
            congr 3
            exact(b6 (by omega)).symm
           have hln:(TO.aU e mi f τ' (iF l ((l.drop o).take m) n m):TO S).len=(TO.aU e mi f τ' l:TO S).len:=p8 c1
           obtain⟨e2,e3⟩:=k6 (o':=.aU e mi f τ' (iF l ((l.drop o).take m) n m)) ho hln
           have hgs:oL s.er.st (S.sz τ') (.aQ h2 (S.sz τ') (o*S.sz τ') m)=some (List.flatMap (aL S τ') ((l.drop o).take m),m,f):=by
            simp only[oL,ho']
            show some (_,m,f)=_
            exact congrArg (fun q=>some (q,m,f)) hcut
           refine⟨_,EF.OX (f:=f) (newsG:=List.flatMap (aL S τ') ((l.drop o).take m)) (m:=m) (gy:=.aQ h2 (S.sz τ') (o*S.sz τ') m) hx' (bf hy) ho' rfl rfl (by show _≤(List.flatMap (aL S τ') l).length;rw[eO];exact b5 _ c1) hs0 hgs (by rw[eO,hlm]) (fun g hg=>by
            obtain⟨a,ha,hg⟩:=hZ.1 hg
            exact pn S τ' a g hg) hu hi (hokW h2 hW) rfl,fun s' hs'=>⟨_,?_,(hl.set ho _).put _ _,⟨rfl,rfl,rfl⟩,hkk⟩⟩
           have hval:∀q,(TV.sub h2 τ' 0 q:TV S).er (s.set h2 (.aU e mi f τ' (iF l ((l.drop o).take m) n m))).ln=.aQ h2 (S.sz τ') 0 q:=fun q=>by show G.aQ _ _ (0*_) _=_;rw[ew]
           rcases hs' with hs' | ⟨h0,hs'⟩
           ·subst hs'
            rw[fC,e2,hval]
            show Gh ⟨(d,.aQ h2 (S.sz τ') 0 (n+m))::s.er.fr,bw s.er.st h2 ⟨e,true,mi,f&&f,S.sz τ',(List.flatMap (aL S τ') l).take (n*S.sz τ')++List.flatMap (aL S τ') ((l.drop o).take m)++(List.flatMap (aL S τ') l).drop (n*S.sz τ'+(List.flatMap (aL S τ') ((l.drop o).take m)).length),none⟩,s.er.df⟩ ⟨(d,.aQ h2 (S.sz τ') 0 (n+m))::s.er.fr,bw s.er.st h2 ⟨e,true,mi,f,S.sz τ',List.flatMap (aL S τ') (iF l ((l.drop o).take m) n m),none⟩,s.er.df⟩
            rw[hc,fI]
            exact Gh.refl _
           ·subst hs'
            subst h0
            rw[fC,e2,hval,xw hmin]
            have:=uC ho'
            show Gh ⟨(d,.aQ h2 (S.sz τ') 0 n)::s.er.fr,s.er.st,s.er.df⟩ ⟨(d,.aQ h2 (S.sz τ') 0 n)::s.er.fr,bw s.er.st h2 (TO.er s.ln (.aU e mi f τ' l)),s.er.df⟩
            rw[uC ho']
            exact Gh.refl _
          ·cases h
         ·cases h
        ·cases h
     ·cases h
    ·cases h
   ·cases h
 ·cases h
theorem M9 {ok:Nat→Bool}(hokW:∀h,ok h=true→W.contains h=true){args:Array Operand}{ts:Array TypeId}(hl:aY s) (h:Im P ok s ⟨.builtin .clear,args,ts⟩ k=some r):
  fA P W s ⟨none,.call ⟨.builtin .clear,args,ts⟩,ty,pos,after,guard⟩ k r:=by
 unfold Im at h
 dsimp only at h
 split at h
 ·rename_i x t h1 h2
  have h1:=zB h1
  have h2:=zB h2
  subst h1;subst h2
  split at h
  ·rename_i e0 hu
   split at h
   ·rename_i hh τ o n hx
    split at h
    ·cases h
    ·rename_i hW
     split at h
     ·rename_i e mi f τ' l ho
      split at h
      ·rename_i e1 _
       subst e1
       split at h
       ·rename_i i hi
        split at h
        ·rename_i z hz
         split at h
         ·rename_i a ha
          obtain⟨u,hck,h⟩:=bind_some h
          have c1:=cj hck
          obtain⟨z1,z2⟩:=FP ha
          have ho':=cO (dQ ho)
          have hln:(TO.aU e mi f τ' (iF l (List.replicate n a) o n):TO S).len=(TO.aU e mi f τ' l:TO S).len:=p8 c1
          obtain⟨e2,e3⟩:=k6 (o':=.aU e mi f τ' (iF l (List.replicate n a) o n)) ho hln
          have hze:(Builtin.zeroCells z.cells n).toList.map iB=List.flatMap (aL S τ') (List.replicate n a):=by
           letI:=jC S τ'
           exact Lw (α:=S.D τ') z2 z1 n
          have hmin:Nat.min (List.replicate n a).length n=n:=by rw[gK];exact Nat.min_self n
          have hc:(List.flatMap (aL S τ') l).take (o*S.sz τ')++(Builtin.zeroCells z.cells n).toList.map iB++(List.flatMap (aL S τ') l).drop (o*S.sz τ'+n*S.sz τ')=List.flatMap (aL S τ') (iF l (List.replicate n a) o n):=by
           rw[hze,←dA,nN,nO,←iE,←iE]
           unfold iF
           rw[hmin]
           congr 3
           exact(b6 (by rw[gK];exact az _)).symm
          refine⟨_,EF.clear (bf hx) ho' rfl (by show _≤(List.flatMap (aL S τ') l).length;rw[eO,←dA];exact b5 _ c1) hu (by rw[hi,bG,hz]) z2 (fun i v hv=>by
           have:iB v∈aL S τ' a:=by
            rw[←z1]
            exact iX.2 ⟨v,ar (by rw[bn];exact hv),rfl⟩
           have:=pn S τ' a _ this
           unfold iB at this
           split at this
           ·rfl
           ·exact this) (hokW hh hW) rfl,fun s' hs'=>⟨_,?_,hl.set ho _,⟨rfl,rfl,rfl⟩,h⟩⟩
          rw[e2]
          rcases hs' with hs' | ⟨h0,hs'⟩
          ·subst hs'
           show Gh ⟨s.er.fr,bw s.er.st hh ⟨e,true,mi,f&&true,S.sz τ',(List.flatMap (aL S τ') l).take (o*S.sz τ')++(Builtin.zeroCells z.cells n).toList.map iB++(List.flatMap (aL S τ') l).drop (o*S.sz τ'+n*S.sz τ'),none⟩,s.er.df⟩ ⟨s.er.fr,bw s.er.st hh ⟨e,true,mi,f,S.sz τ',List.flatMap (aL S τ') (iF l (List.replicate n a) o n),none⟩,s.er.df⟩
           rw[hc,iY]
           exact Gh.refl _
          ·subst hs'
           subst h0
           rw[xw hmin]
           show Gh ⟨s.er.fr,s.er.st,s.er.df⟩ ⟨s.er.fr,bw s.er.st hh (TO.er s.ln (.aU e mi f τ' l)),s.er.df⟩
           rw[uC ho']
           exact Gh.refl _
         ·cases h
        ·cases h
       ·cases h
      ·cases h
     ·cases h
   ·cases h
  ·cases h
 ·cases h
end
end
end Go.DN
/-
 DN,part Kg:slices of structs of slices:made;one of the slices is taken out,and put in.
-/
namespace Go.DN
open Go.AM
theorem flat_get {α β:Type}(f:α→List β){n:Nat}(hn:∀a,(f a).length=n){j:Nat}(hj:j<n):∀(l:List α) (i:Nat),(l.flatMap f)[i*n+j]?=(l[i]?).bind fun a=>(f a)[j]?
 | [],i=>by simp
 | a::l,0=>by
  rw[cn,ew,bQ,cG (by rw[hn];exact hj)]
  rfl
 | a::l,i+1=>by
  rw[cn,cS (by rw[hn,Nat.succ_mul];omega),hn,show(i+1)*n+j-n=i*n+j by rw[Nat.succ_mul];omega,flat_get f hn hj l i]
  rfl
section
variable {S:eC}
variable {P:Program}{W:List Nat}{ok:Nat→Bool}{s:ah S}{ty:TypeId}{pos:String}{after:Array Edge}{guard:Option (Nat×Bool)}{A:Type}{k:ah S→Option A}{r:A}
def Qa (S:eC) (P:Program) (t:TypeId):Bool:=match P.underlying t with
 | some (.slice e)=>(S.Sy e).isSome
 | _=>false
def DI (P:Program) (s:ah S) (d:Nat) (t:TypeId) (x y:Operand){A:Type}(k:ah S→Option A):Option A:=
 none
theorem KH {d:Nat}{t:TypeId}{x y:Operand}(hl:aY s) (h:DI P s d t x y k=some r):fA P W s ⟨some d,.makeSlice t x y,ty,pos,after,guard⟩ k r:=by
 unfold DI at h
 cases h
def DQ (s:ah S) (op:Op):Bool:=match op with
 | .load _ x=>match cm s x with
  | some (.gI h _ _ _)=>HD s h
  | _=>false
 | _=>false
def Du (P:Program) (ok:Nat→Bool) (s:ah S) (d:Nat) (t:TypeId) (x:Operand){A:Type}(k:ah S→Option A):Option A:=
 none
theorem Kn (hokW:∀h,ok h=true→W.contains h=true){d:Nat}{t:TypeId}{x:Operand}(hl:aY s) (h:Du P ok s d t x k=some r):fA P W s ⟨some d,.load t x,ty,pos,after,guard⟩ k r:=by
 unfold Du at h
 cases h
def GA (P:Program) (ok:Nat→Bool) (s:ah S) (t:TypeId) (x y:Operand){A:Type}(k:ah S→Option A):Option A:=
 none
theorem L6 (hokW:∀h,ok h=true→W.contains h=true){t:TypeId}{x y:Operand}(hl:aY s) (h:GA P ok s t x y k=some r):fA P W s ⟨none,.store t x y,ty,pos,after,guard⟩ k r:=by
 unfold GA at h
 cases h
end
end Go.DN
/-
 DN,part Kh:maps are made,get an entry more;a slice of one of the structs grows.
-/
namespace Go.DN
open Go.AM
section
variable {S:eC}
def R6 (P:Program) (t:TypeId):Option (IntKind×TypeId×TypeId):=
 match P.underlying t with
 | some (.map kt et)=>match P.underlying kt,P.underlying et with
  | some (.struct fs),some (.pointer tt)=>match P.underlying tt with
   | some (.struct gs)=>match fs.toList,gs.toList with
    | f0::_,g0::_=>match P.underlying f0.type,P.underlying g0.type with
     | some (.int q),some (.slice e)=>some (q,e,tt)
     | _,_=>none
    | _,_=>none
   | _=>none
  | _,_=>none
 | _=>none
def Hg (P:Program) (s:ah S) (d:Nat) (t:TypeId) (n:Option Operand){A:Type}(k:ah S→Option A):Option A:=
 match n with
 | none=>match s.free (s.cP d) with
  | true=>match R6 P t with
   | some (q,kty,tty)=>k ((s.add (s.cP d) (.deep 0 true true (.map q kty tty) .map ⟨0,[],none⟩)).put d (.mp (s.cP d)))
   | none=>none
  | false=>none
 | some _=>none
def TV.rk (q:IntKind) (h2 h n:Nat):TV S→TV S
 | .loc x off=>bif Nat.beq x h2 then .kp h (.list (.int q)) n off else .loc x off
 | v=>match v.has h2 with | true=>.any | false=>v
def L9 (q:IntKind) (h2 h n:Nat):List (Nat×TV S)→List (Nat×TV S)
 | []=>[]
 | (t,v)::r=>(t,v.rk q h2 h n)::L9 q h2 h n r
def TO.rk (q:IntKind) (h2 h n:Nat):TO S→TO S
 | .box e m cs=>.box e m (cs.map (TV.rk q h2 h n))
 | .lp l m cs=>.lp l m (cs.map (TV.rk q h2 h n))
 | o=>o
def GF (q:IntKind) (h2 h n:Nat):List (Nat×TO S)→List (Nat×TO S)
 | []=>[]
 | (t,o)::r=>bif Nat.beq t h2 then GF q h2 h n r else(t,o.rk q h2 h n)::GF q h2 h n r
def ah.rk (s:ah S) (q:IntKind) (h2 h n:Nat) (o:TO S):ah S:={s with fr:=L9 q h2 h n s.fr,st:=(h,o)::GF q h2 h n s.st,last:=[]}
theorem Kq {q:IntKind}{h2 h n:Nat}{v:TV S}(hv:v.has h2=false):v.rk q h2 h n=v:=by
 cases v with
 | loc x off=>
  show(bif Nat.beq x h2 then _ else _)=_
  rw[show Nat.beq x h2=false from hv];rfl
 | _=>simp only[TV.rk,hv]
theorem GD {q:IntKind}{h2 h n:Nat}:∀{l:List (TV S)},TV.has.go h2 l=false→l.map (TV.rk q h2 h n)=l
 | [],_=>rfl
 | v::r,e=>by
  simp only[TV.has.go,bE] at e
  rw[aI,Kq e.1,GD e.2]
theorem QZ (q:IntKind) (h2 h n:Nat) (o:TO S):(o.rk q h2 h n).len=o.len:=by cases o <;> rfl
theorem F7 {q:IntKind}{h2 h n:Nat}:∀{fr:List (Nat×TV S)}{d:Nat},bc (L9 q h2 h n fr) d=(bc fr d).map (TV.rk q h2 h n)
 | [],_=>rfl
 | (t,v)::r,d=>by
  simp only[L9,bc]
  cases Nat.beq t d with
  | true=>rfl
  | false=>exact F7
theorem A7 {q:IntKind}{h2 h n:Nat}:∀{st:List (Nat×TO S)}{x:Nat},aw (GF q h2 h n st) x=bif Nat.beq x h2 then none else(aw st x).map (TO.rk q h2 h n)
 | [],x=>by simp only[GF,aw,Option.map_none];cases Nat.beq x h2 <;> rfl
 | (t,o)::r,x=>by
  simp only[GF]
  cases hm:Nat.beq t h2 with
  | true=>
   simp only[cond_true]
   rw[A7]
   simp only[aw]
   cases hb:Nat.beq t x with
   | true=>
    have:=aa hb
    subst this
    rw[hm];rfl
   | false=>rfl
  | false=>
   simp only[aw,cond_false]
   cases hb:Nat.beq t x with
   | true=>
    have:=aa hb
    subst this
    rw[hm];rfl
   | false=>exact A7
theorem L8 {s:ah S}{q:IntKind}{h h2 n:Nat}{o:TO S}(hi:inner s [h2]=true) (x:Nat):aw (s.rk q h2 h n o).bg x=bif Nat.beq h x then some o else bif Nat.beq x h2 then none else(aw s.bg x).map (TO.rk q h2 h n):=by
 obtain⟨i1,i2,i3,i4⟩:=jb hi h2 av
 show aw ((h,o)::(GF q h2 h n s.st++s.bL)) x=_
 simp only[aw]
 cases hb:Nat.beq h x with
 | true=>rfl
 | false=>
  simp only[cond_false]
  rw[db,A7]
  show _=bif Nat.beq x h2 then none else(aw (s.st++s.bL) x).map (TO.rk q h2 h n)
  rw[db]
  cases hm:Nat.beq x h2 with
  | true=>
   have:=aa hm
   subst this
   exact i1
  | false=>
   simp only[cond_false]
   cases h1:aw s.st x with
   | some o=>rfl
   | none=>
    show aw s.bL x=(aw s.bL x).map _
    cases h3:aw s.bL x with
    | none=>rfl
    | some o2=>
     rw[bG]
     have hn:o2.has h2=false:=o8 h3 i4
     cases o2 with
     | box e m cs=>simp only[TO.rk];rw[GD (l:=cs) hn]
     | lp l n cs=>simp only[TO.rk];rw[GD (l:=cs) hn]
     | _=>rfl
theorem Q0 {s:ah S}{q:IntKind}{h h2 n:Nat}{o:TO S}(hi:inner s [h2]=true) (d:Nat):bc (s.rk q h2 h n o).bW d=(bc s.bW d).map (TV.rk q h2 h n):=by
 show bc (L9 q h2 h n s.fr++s.lo) d=(bc (s.fr++s.lo) d).map _
 rw[jX,jX,F7]
 cases bc s.fr d with
 | some v=>rfl
 | none=>
  show bc s.lo d=(bc s.lo d).map _
  cases h3:bc s.lo d with
  | none=>rfl
  | some v=>rw[bG,Kq (ng h3 (jb hi h2 av).2.2.1)]
theorem Aw {rn:G→G}:∀{fr:List (Nat×G)}{t:Nat}{g:G},AM.get fr t=some g→AM.get (vm rn fr) t=some (rn g)
 | [],_,_,e=>by cases e
 | (k,g')::r,t,g,e=>by
  simp only[AM.get] at e
  simp only[vm,aI,AM.get]
  cases hb:Nat.beq k t with
  | true=>rw[hb] at e;cases e;rfl
  | false=>rw[hb] at e;exact Aw e
theorem RZ {s:ah S}{q:IntKind}{h h2 n:Nat}{o o':TO S}{s1:St}(ho:aw s.st h=some o) (hlen:o'.len=o.len) (hln:∀ln ln',o'.er ln=o'.er ln') (hi:inner s [h2]=true) (hne:h2≠h)
  (h1:s1.fr=vm (lY h2 h n) s.er.fr) (hst:aq s1.st h=some (o'.er s.ln)) (h3:∀x k0,x≠h→x≠h2→aq s.er.st x=some k0→aq s1.st x=some (vH (lY h2 h n) k0)) (h4:s1.df=s.er.df):
  Gh s1 (s.rk q h2 h n o').er∧aY (s.rk q h2 h n o')∧bz s (s.rk q h2 h n o'):=by
 have hag:∀x,x≠h2→s.ln x=(s.rk q h2 h n o').ln x:=by
  intro x hx
  show bZ s.bg x=bZ (s.rk q h2 h n o').bg x
  unfold bZ
  rw[L8 hi]
  cases hb:Nat.beq h x with
  | true=>
   have:=aa hb
   subst this
   rw[dQ ho];exact hlen.symm
  | false=>
   have hm:Nat.beq x h2=false:=by
    cases hm:Nat.beq x h2 with
    | false=>rfl
    | true=>exact absurd (aa hm) hx
   rw[hm]
   simp only[cond_false]
   cases aw s.bg x with
   | none=>rfl
   | some o=>exact(QZ q h2 h n o).symm
 have hcv:∀v:TV S,CV s1.st (s.rk q h2 h n o').er.st (lY h2 h n (v.er s.ln)) ((v.rk q h2 h n).er (s.rk q h2 h n o').ln):=by
  intro v
  cases hv:v.has h2 with
  | false=>
   rw[Kq hv,GG _ (by rw[tR];exact hv),oQ (ln:=s.ln) (ln':=(s.rk q h2 h n o').ln) v fun k hk=>hag k fun hm=>by subst hm;rw[hv] at hk;cases hk]
   exact CV.refl _ _ _
  | true=>
   cases v with
   | loc x off=>
    have hv:Nat.beq x h2=true:=hv
    have e1:(TV.loc x off:TV S).rk q h2 h n=.kp h (.list (.int q)) n off:=by
     show(bif Nat.beq x h2 then _ else _)=_
     rw[hv];rfl
    have e2:lY h2 h n ((TV.loc x off:TV S).er s.ln)=.kp h n off:=by
     show(bif Nat.beq x h2 then _ else _)=_
     rw[hv];rfl
    rw[e1,e2]
    have:(TV.kp h (.list (.int q)) n off:TV S).er (s.rk q h2 h n o').ln=.kp h n off:=by
     show G.kp h n (off*1)=_
     rw[dX]
    rw[this]
    exact CV.refl _ _ _
   | _=>
    simp only[TV.rk,hv]
    exact CV.any _ _ _
 have hcvL:∀cs:List (TV S),II s1.st (s.rk q h2 h n o').er.st ((TV.er.go s.ln cs).map (lY h2 h n)) (TV.er.go (s.rk q h2 h n o').ln (cs.map (TV.rk q h2 h n))):=by
  intro cs
  induction cs with
  | nil=>exact⟨rfl,fun j g' hg'=>by simp[TV.er.go] at hg'⟩
  | cons v r ih=>
   refine⟨by simp only[aI,TV.er.go,bN,ih.1],fun j g' hg'=>?_⟩
   simp only[aI,TV.er.go] at hg'⊢
   cases j with
   | zero=>cases hg';exact⟨_,rfl,hcv v⟩
   | succ j=>exact ih.2 j g' hg'
 refine⟨Gh.gen (fun d g' hg'=>?_) (fun x k' hk'=>?_) ?_,gH rfl,⟨rfl,rfl,rfl⟩⟩
 ·obtain⟨v',e1,rfl⟩:=xg hg'
  rw[Q0 hi] at e1
  obtain⟨v,e2,rfl⟩:=au.1 e1
  refine⟨lY h2 h n (v.er s.ln),?_,hcv v⟩
  rw[h1]
  exact Aw (fc e2)
 ·obtain⟨o2,e1,rfl⟩:=pb hk'
  rw[L8 hi] at e1
  cases hb:Nat.beq h x with
  | true=>
   rw[hb] at e1
   cases e1
   have:=aa hb
   subst this
   refine⟨_,hst,?_⟩
   rw[hln (s.rk q h2 h n o').ln s.ln]
   exact ox.refl _ _ _
  | false=>
   rw[hb] at e1
   simp only[cond_false] at e1
   cases hm:Nat.beq x h2 with
   | true=>rw[hm] at e1;cases e1
   | false=>
    rw[hm] at e1
    simp only[cond_false] at e1
    obtain⟨o3,e2,rfl⟩:=au.1 e1
    refine⟨_,h3 x _ (fun e=>by subst e;rw[aH] at hb;cases hb) (fun e=>by subst e;rw[aH] at hm;cases hm) (fK e2),?_⟩
    cases o3 with
    | box e m cs=>exact⟨rfl,id,rfl,rfl,rfl,(hcvL cs).1,.inr ⟨rfl,(hcvL cs).2⟩⟩
    | lp l n cs=>exact⟨rfl,id,rfl,rfl,rfl,(hcvL cs).1,.inr ⟨rfl,(hcvL cs).2⟩⟩
    | aU e m f τ l=>exact ox.refl _ _ _
    | deep e m f dk τ a=>exact ox.refl _ _ _
 ·rw[h4]
  show TV.er.go s.ln s.df=TV.er.go (s.rk q h2 h n o').ln s.df
  exact lu _ fun k hk=>hag k fun hm=>by subst hm;rw[(jb hi k av).2.1] at hk;cases hk
def z8:List (TV S)→Bool
 | []=>true
 | .val (.slice none 0 0)::r=>z8 r
 | _::_=>false
theorem C9 (ln:Nat→Nat):∀{cs:List (TV S)},z8 cs=true→TV.er.go ln cs=List.replicate cs.length (.val (.slice none 0 0))
 | [],_=>rfl
 | v::r,h=>by
  unfold z8 at h
  split at h
  ·rename_i e
   cases e
  ·rename_i r' e
   cases e
   simp only[TV.er.go,C9 ln h,bN,nW]
   rfl
  ·cases h
def yL (d:bC) (a b:Int) (n:Nat):bC:=⟨d.n+1,d.es++[⟨a,b,d.n,List.replicate n (iG,[])⟩],d.pd⟩
def DJ (P:Program) (ok:Nat→Bool) (s:ah S) (t:TypeId) (x y z:Operand){A:Type}(k:ah S→Option A):Option A:=
 match cm s x with
 | some (.mp h)=>match cm s z with
  | some (.loc h2 0)=>match ok h&&(ok h2&&(!(Nat.beq h2 h)&&inner s [h2])) with
   | true=>match aw s.st h with
    | some (.deep e m f (.map q kty tty) .map d)=>match aw s.st h2 with
     | some (.box e2 m2 cs)=>match m2&&(Nat.beq e2 tty&&z8 cs) with
      | true=>match cm s y with
       | some vy=>match KV q vy with
        | some (a,b)=>match P.underlying t with
         | some (.map kt et)=>match FC P kt q with
          | true=>(bq (d.n+1≤maxLen∧uJ d.es a b=true)).bind fun _=>k (s.rk q h2 h d.n (.deep e m f (.map q kty tty) .map (yL d a b cs.length)))
          | false=>none
         | _=>none
        | none=>none
       | none=>none
      | false=>none
     | _=>none
    | _=>none
   | false=>none
  | _=>none
 | _=>none
theorem Qh (q:IntKind) (n:Nat):(List.replicate n ((iG,[]):Nat×List Int)).map (fun p=>(p.1,gE q p.2))=List.replicate n (iG,[]):=by
 rw[List.map_replicate];rfl
def uI (z:Nat):List (Nat×List Int)→Nat→Option Nat
 | [],_=>none
 | (x,_)::r,j=>bif Nat.beq x z then some j else uI z r (j+1)
def yJ (z:Nat):List bP→Option (Nat×Nat)
 | []=>none
 | e::r=>match uI z e.f 0 with
  | some j=>some (e.t,j)
  | none=>yJ z r
def pP (d:bC) (z n:Nat) (x:Int) (bt:Nat):Option bC:=
 (bq (d.pd.isNone=true∧d.n+1≤maxLen∧n+1≤maxLen∧(n+1)*bt≤140737488355328)).bind fun _=>
  match n with
  | 0=>(bq (z=iG)).bind fun _=>some ⟨d.n+1,d.es,some (none,d.n,[x])⟩
  | _+1=>(yJ z d.es).bind fun p=>(iu d.es p.1 p.2).bind fun q=>(bq (q.1=z∧q.2.length=n)).bind fun _=>some ⟨d.n+1,d.es,some (some p,d.n,q.2++[x])⟩
def ru (es:List bP) (t j:Nat) (p:Nat×List Int):List bP:=es.map fun e=>bif Nat.beq e.t t then {e with f:=e.f.set j p} else e
def j5 (d:bC) (t j z n:Nat):Option bC:=
 match d.pd with
 | none=>none
 | some (sr,x,l)=>(bq (x=z∧List.length l=n∧(sr=none∨sr=some (t,j)))).bind fun _=>(vo d.es t).bind fun e=>(bq (j<e.f.length)).bind fun _=>some ⟨d.n,ru d.es t j (x,l),none⟩
def Oa (s:ah S):List Operand→Bool
 | [x,_]=>match cm s x with
  | some (.ks h _ _ _)=>match aw s.st h with
   | some (.deep _ _ _ (.map _ _ _) .map _)=>true
   | _=>false
  | _=>false
 | _=>false
def DK (P:Program) (ok:Nat→Bool) (s:ah S) (d:Nat) (c:Call){A:Type}(k:ah S→Option A):Option A:=
 match c.args.toList,c.argTypes.toList with
 | [x,y],[t,t']=>match decEq t t' with
  | isFalse _=>none
  | isTrue _=>match P.underlying t with
   | some (.slice e0)=>match cm s x with
    | some (.ks h τ z n)=>match ok h with
     | false=>none
     | true=>match aw s.st h with
      | some (.deep e m f (.map q kty tty) .map dd)=>match decEq τ (.int q),decEq e0 kty with
       | isTrue _,isTrue _=>match cm s y with
        | some (.aQ h3 _)=>match aw s.bg h3 with
         | some (.aU _ _ _ (.int q3) [v])=>match decEq q3 q with
          | isTrue _=>match P.info? e0 with
           | some i=>match i.zero with
            | some zv=>match decEq i.size 1,decEq zv.cells.size 1 with
             | isTrue _,isTrue _=>(pP dd z n v i.bytes).bind fun dd'=>k ((s.set h (.deep e m f (.map q kty tty) .map dd')).put d (.ks h (.int q) dd.n (n+1)))
             | _,_=>none
            | none=>none
           | none=>none
          | isFalse _=>none
         | _=>none
        | _=>none
       | _,_=>none
      | _=>none
    | _=>none
   | _=>none
 | _,_=>none
def Qc (s:ah S) (x:Operand):Bool:=match cm s x with
 | some (.kp h _ _ _)=>match aw s.st h with
  | some (.deep _ _ _ (.map _ _ _) .map _)=>true
  | _=>false
 | _=>false
def Hl (P:Program) (ok:Nat→Bool) (s:ah S) (t:TypeId) (x y:Operand){A:Type}(k:ah S→Option A):Option A:=
 match cm s x with
 | some (.kp h (.list _) i j)=>match cm s y with
  | some (.ks h2 τ z n)=>match ok h with
   | false=>none
   | true=>match aw s.st h with
    | some (.deep e m f (.map q kty tty) .map dd)=>match decEq h2 h,decEq τ (.int q),decEq (ku P t) (some 1) with
     | isTrue _,isTrue _,isTrue _=>(j5 dd i j z n).bind fun dd'=>k (s.set h (.deep e m f (.map q kty tty) .map dd'))
     | _,_,_=>none
    | _=>none
  | _=>none
 | _=>none
def Da:List (TV S)→Bool
 | []=>true
 | .ks _ τ _ _::r=>(match τ with | .st _=>false | _=>true)&&Da r
 | _::_=>false
def Sa (s:ah S) (parts:List (Nat×Operand)):Bool:=
 match parts with
 | []=>false
 | _=>match vL s parts 0 with
  | some vs=>Da vs
  | none=>false
def Lk (P:Program) (s:ah S) (d:Nat) (t:TypeId) (n:Nat) (parts:Array (Nat×Operand)){A:Type}(k:ah S→Option A):Option A:=
 match s.free (s.cP d) with
 | true=>match P.underlying t with
  | some (.slice e)=>match P.info? e with
   | some i=>match i.zero with
    | some _=>match decEq i.size 1 with
     | isTrue _=>match vL s parts.toList 0 with
      | some (v::vs)=>match v with
       | .ks _ τ _ _=>match Da (v::vs)&&(Nat.beq (vs.length+1) n&&(Nat.ble n 16777216&&!(TV.has.go (s.cP d) (v::vs)))) with
        | true=>k ((s.add (s.cP d) (.box e true (v::vs))).put d (.sub (s.cP d) (.list τ) 0 n))
        | false=>none
       | _=>none
      | _=>none
     | isFalse _=>none
    | none=>none
   | none=>none
  | _=>none
 | false=>none
section
variable {P:Program}{W:List Nat}{s:ah S}{ty:TypeId}{pos:String}{after:Array Edge}{guard:Option (Nat×Bool)}{A:Type}{k:ah S→Option A}{r:A}
theorem Mt {d:Nat}{t:TypeId}{n:Option Operand}(hl:aY s) (h:Hg P s d t n k=some r):fA P W s ⟨some d,.makeMap t n,ty,pos,after,guard⟩ k r:=by
 unfold Hg at h
 split at h
 ·split at h
  ·rename_i hf
   split at h
   ·rename_i q kty tty _
    obtain⟨e1,_⟩:=ow hf (.deep 0 true true (.map q kty tty) .map ⟨0,[],none⟩) rfl
    refine .one _ (EF.mkMap (s.cP d) q kty tty (gn hf)) ?_ ((hl.add _ hf).put _ _) ⟨rfl,rfl,rfl⟩ h
    rw[fC,e1]
    exact Gh.refl _
   ·cases h
  ·cases h
 ·cases h
theorem KI {ok:Nat→Bool}(hokW:∀h,ok h=true→W.contains h=true){t:TypeId}{x y z:Operand}(hl:aY s) (h:DJ P ok s t x y z k=some r):fA P W s ⟨none,.mapUpdate t x y z,ty,pos,after,guard⟩ k r:=by
 unfold DJ at h
 split at h
 ·rename_i hh hx
  split at h
  ·rename_i h2 hz
   split at h
   ·rename_i hc
    simp only[aj,a6] at hc
    obtain⟨c1,c2,c3,c4⟩:=hc
    split at h
    ·rename_i e m f q kty tty dd ho
     split at h
     ·rename_i e2 m2 cs ho2
      split at h
      ·rename_i hb
       simp only[aj] at hb
       obtain⟨b1,b2,b3⟩:=hb
       split at h
       ·rename_i vy hy
        split at h
        ·rename_i a b hk
         split at h
         ·rename_i kt et hu
          split at h
          ·rename_i hK
           obtain⟨_,hck,h⟩:=bind_some h
           obtain⟨k1,k2⟩:=cj hck
           have hy:=bf hy
           rw[Jr hk] at hy
           have hne:h2≠hh:=fun e=>by subst e;rw[aH] at c3;cases c3
           have hno:mn (dd.es.map (bP.me q)) (a,b)=none:=by
            rw[zS]
            unfold uJ at k2
            cases hm:gD dd.es a b with
            | none=>rfl
            | some _=>rw[hm] at k2;cases k2
           have hs1:=cO (dQ ho)
           have hs2:=cO (dQ ho2)
           have hoE:(TO.deep e m f (.map q kty tty) .map (yL dd a b cs.length):TO S).er s.ln=⟨e,true,m,f,1,[],some (.deep (fG q kty tty (dd.n+1) (List.map (bP.me q) dd.es++[ME.mk (a,b) dd.n (List.replicate cs.length (iG,[]))]) (vK q dd.pd)))⟩:=by
            show ap.mk _ _ _ _ _ _ (some (.deep (fG q kty tty (dd.n+1) (List.map (bP.me q) (dd.es++[bP.mk a b dd.n (List.replicate cs.length (iG,[]))])) (vK q dd.pd))))=_
            rw[kx]
            simp only[aI,ix,bP.me,Qh]
           obtain⟨g1,g2,g3⟩:=RZ (s:=s) (q:=q) (h:=hh) (h2:=h2) (n:=dd.n) (o':=.deep e m f (.map q kty tty) .map (yL dd a b cs.length))
            (s1:={fr:=vm (lY h2 hh dd.n) s.er.fr,st:=bw (AV (lY h2 hh dd.n) (oH s.er.st h2)) hh ⟨e,true,m,f,1,[],some (.deep (fG q kty tty (dd.n+1) (List.map (bP.me q) dd.es++[ME.mk (a,b) dd.n (List.replicate cs.length (iG,[]))]) (vK q dd.pd)))⟩,df:=s.er.df})
            ho rfl (fun _ _=>rfl) c4 hne rfl (by rw[hoE,eZ (pB (k5 (Ne.symm hne) hs1))]) (fun x k0 hx1 hx2 h0=>by
             show aq (bw _ _ _) _=_
             rw[eM hx1]
             exact pB (k5 hx2 h0)) rfl
           refine .one _ (EF.Rg (q:=q) (kty:=kty) (tty:=tty) (n:=dd.n) (es:=dd.es.map (bP.me q)) (pd:=vK q dd.pd) (ky:=(a,b)) (zf:=cs.length) (bf hx) hy (bf hz) c3 hs1 rfl hu (HB hK) hno hs2 rfl (aa b2) b1 (C9 _ b3) k1 (by rw[show s.er.df=TV.er.go s.ln s.df from rfl,zY,(jb c4 h2 av).2.1];rfl) (hokW _ c1) (hokW _ c2)) g1 g2 g3 h
          ·cases h
         ·cases h
        ·cases h
       ·cases h
      ·cases h
     ·cases h
    ·cases h
   ·cases h
  ·cases h
 ·cases h
theorem Od (q:IntKind) (l:List Int) (x:Int):gE q (l++[x])=gE q l++[.val (.int q x)]:=by simp[gE]
theorem Oc {q:IntKind}{l:List Int}(h:l≠[]):gE q l≠[]:=by
 intro e
 apply h
 cases l with
 | nil=>rfl
 | cons a r=>cases e
theorem KJ {ok:Nat→Bool}(hokW:∀h,ok h=true→W.contains h=true){d:Nat}{args:Array Operand}{ts:Array TypeId}(hl:aY s) (h:DK P ok s d ⟨.builtin .append,args,ts⟩ k=some r):
  fA P W s ⟨some d,.call ⟨.builtin .append,args,ts⟩,ty,pos,after,guard⟩ k r:=by
 unfold DK at h
 dsimp only at h
 split at h
 ·rename_i x y t t' h1 h2
  have h1:=ma h1
  have h2:=ma h2
  subst h1;subst h2
  split at h
  ·cases h
  ·rename_i e1 _
   subst e1
   split at h
   ·rename_i e0 hu
    split at h
    ·rename_i hh τ z n hx
     split at h
     ·cases h
     ·rename_i hW
      split at h
      ·rename_i e m f q kty tty dd ho
       split at h
       ·rename_i e1 e2 _ _
        subst e1;subst e2
        split at h
        ·rename_i h3 τ3 hy
         split at h
         ·rename_i e3 m3 f3 q3 v ho3
          split at h
          ·rename_i e1 _
           subst e1
           split at h
           ·rename_i i hi
            split at h
            ·rename_i zv hz
             split at h
             ·rename_i i1 i2 _ _
              obtain⟨dd',hd,h⟩:=bind_some h
              unfold pP at hd
              obtain⟨_,hck,hd⟩:=bind_some hd
              obtain⟨k1,k2,k3,k4⟩:=cj hck
              have hpd:dd.pd=none:=by
               cases hp:dd.pd with
               | none=>rfl
               | some _=>rw[hp] at k1;cases k1
              have ho':=cO (dQ ho)
              have ho3':=cO ho3
              have hinfo:(P.info? e0).map (fun i=>(i.zero,i.size,i.bytes))=some (some zv,1,i.bytes):=by rw[hi,bG,hz,i1]
              have hln3:s.ln h3=1:=l6 ho3
              have hsrc:∃(l:List Int) (sr:Option (Nat×Nat)),n=l.length∧dd'=⟨dd.n+1,dd.es,some (sr,dd.n,l++[v])⟩∧((z=iG∧gE q3 l=[]∧sr=none)∨(gE q3 l≠[]∧∃tt j e,sr=some (tt,j)∧vD (dd.es.map (bP.me q3)) tt=some e∧e.f[j]?=some (z,gE q3 l))):=by
               split at hd
               ·obtain⟨_,hck,hd⟩:=bind_some hd
                cases hd
                exact⟨[],none,rfl,rfl,.inl ⟨cj hck,rfl,rfl⟩⟩
               ·rename_i n'
                obtain⟨p,q1,hd⟩:=bind_some hd
                obtain⟨qq,q2,hd⟩:=bind_some hd
                obtain⟨_,hck,hd⟩:=bind_some hd
                obtain⟨c1,c2⟩:=cj hck
                cases hd
                obtain⟨z',l⟩:=qq
                dsimp only at c1 c2
                subst c1
                obtain⟨e',r1,r2⟩:=Ji q2 q3
                refine⟨l,some p,c2.symm,rfl,.inr ⟨Oc (by intro e;subst e;cases c2),p.1,p.2,e',rfl,r1,r2⟩⟩
              obtain⟨l,sr,hn,hdd,hsr⟩:=hsrc
              subst hn;subst hdd
              obtain⟨e2,e3⟩:=k6 (s:=s) (o':=.deep e m f (.map q3 e0 tty) .map ⟨dd.n+1,dd.es,some (sr,dd.n,l++[v])⟩) ho rfl
              have hil:(gE q3 l).length=l.length:=Bi q3 l
              have hoE:aq s.er.st hh=some ⟨e,true,m,f,1,[],some (.deep (fG q3 e0 tty dd.n (dd.es.map (bP.me q3)) none))⟩:=by
               rw[ho']
               show some (ap.mk _ _ _ _ _ _ (some (.deep (fG q3 e0 tty dd.n (dd.es.map (bP.me q3)) (vK q3 dd.pd)))))=_
               rw[hpd];rfl
              have:=EF.Rj (P:=P) (W:=W) (ty:=ty) (pos:=pos) (after:=after) (guard:=guard) (s:=s.er) (d:=d) (t:=t) (e0:=e0) (x:=x) (y:=y) (h:=hh) (z:=z) (n:=dd.n) (bt:=i.bytes) (q:=q3) (kty:=e0) (tty:=tty) (es:=dd.es.map (bP.me q3)) (sr:=sr) (gs:=gE q3 l)
               (gy:=.aQ h3 (S.sz τ3) 0 1) (v0:=.int q3 v) (f:=f3) (zv:=zv) (by rw[bf hx,hil];rfl) (by rw[bf hy];show some (G.aQ h3 _ 0 (s.ln h3))=_;rw[hln3]) hoE rfl hsr (by simp only[oL,ho3'];rfl) rfl rfl hu hinfo i2 k2 (by rw[hil];exact k3) (by rw[hil];exact k4) (hokW _ hW)
              refine .one _ this ?_ ((hl.set ho _).put _ _) ⟨rfl,rfl,rfl⟩ h
              rw[fC,e2]
              rw[hil]
              have hpg:vK q3 (some (sr,dd.n,l++[v]))=some (sr,dd.n,gE q3 l++[.val (.int q3 v)]):=by
               show some (sr,dd.n,gE q3 (l++[v]))=_
               rw[Od]
              have hE2:(TO.deep e m f (.map q3 e0 tty) .map ⟨dd.n+1,dd.es,some (sr,dd.n,l++[v])⟩:TO S).er s.ln=⟨e,true,m,f,1,[],some (.deep (fG q3 e0 tty (dd.n+1) (dd.es.map (bP.me q3)) (some (sr,dd.n,gE q3 l++[.val (.int q3 v)]))))⟩:=by
               rw[←hpg];rfl
              rw[hE2]
              exact Gh.refl _
             ·cases h
            ·cases h
           ·cases h
          ·cases h
         ·cases h
        ·cases h
       ·cases h
      ·cases h
    ·cases h
   ·cases h
 ·cases h
theorem I5 (q:IntKind) (t j z:Nat) (l:List Int):∀es:List bP,wI (es.map (bP.me q)) t j (z,gE q l)=(ru es t j (z,l)).map (bP.me q)
 | []=>rfl
 | e::r=>by
  have ih:=I5 q t j z l r
  simp only[wI,ru,aI] at ih⊢
  rw[ih]
  congr 1
  show(bif Nat.beq e.t t then _ else _)=bP.me q (bif Nat.beq e.t t then _ else _)
  cases Nat.beq e.t t with
  | true=>
   show ME.mk _ _ _=ME.mk _ _ _
   congr 1
   show(e.f.map _).set j _=(e.f.set j (z,l)).map _
   rw[kB]
  | false=>rfl
theorem Mw {ok:Nat→Bool}(hokW:∀h,ok h=true→W.contains h=true){t:TypeId}{x y:Operand}(hl:aY s) (h:Hl P ok s t x y k=some r):fA P W s ⟨none,.store t x y,ty,pos,after,guard⟩ k r:=by
 unfold Hl at h
 split at h
 ·rename_i hh τ0 i j hx
  split at h
  ·rename_i h2 τ z n hy
   split at h
   ·cases h
   ·rename_i hW
    split at h
    ·rename_i e m f q kty tty dd ho
     split at h
     ·rename_i e1 e2 hsz _ _ _
      subst e1;subst e2
      obtain⟨dd',hd,hk0⟩:=bind_some h
      unfold j5 at hd
      split at hd
      ·cases hd
      ·rename_i sr x' l hp
       obtain⟨_,hck,hd⟩:=bind_some hd
       obtain⟨c1,c2,c3⟩:=cj hck
       obtain⟨e',q1,hd⟩:=bind_some hd
       obtain⟨_,hck,hd⟩:=bind_some hd
       have c4:=cj hck
       cases hd
       subst c1;subst c2
       have ho':=cO (dQ ho)
       obtain⟨e2,e3⟩:=k6 (s:=s) (o':=.deep e m f (.map q kty tty) .map ⟨dd.n,ru dd.es i j (x',l),none⟩) ho rfl
       have hoE:aq s.er.st h2=some ⟨e,true,m,f,1,[],some (.deep (fG q kty tty dd.n (dd.es.map (bP.me q)) (some (sr,x',gE q l))))⟩:=by
        rw[ho']
        show some (ap.mk _ _ _ _ _ _ (some (.deep (fG q kty tty dd.n (dd.es.map (bP.me q)) (vK q dd.pd)))))=_
        rw[hp];rfl
       have:=EF.R7 (P:=P) (W:=W) (ty:=ty) (pos:=pos) (after:=after) (guard:=guard) (s:=s.er) (t:=t) (x:=x) (y:=y) (h:=h2) (tt:=i) (j:=j) (z:=x') (n:=dd.n) (sr:=sr) (q:=q) (kty:=kty) (tty:=tty) (es:=dd.es.map (bP.me q)) (e:=bP.me q e') (gs:=gE q l)
        (by rw[bf hx];show some (G.kp h2 i (j*1))=_;rw[dX]) (by rw[bf hy,Bi];rfl) hoE rfl c3 (by rw[F5,q1];rfl) (by show j<(e'.f.map _).length;rw[a5];exact c4) (dw hsz) (hokW _ hW)
       refine .one _ this ?_ (hl.set ho _) ⟨rfl,rfl,rfl⟩ hk0
       rw[e2,I5]
       exact Gh.refl _
     ·cases h
    ·cases h
  ·cases h
 ·cases h
theorem Gh.SV {fr:List (Nat×G)}{r:List (Nat×ap)}{df:List G}{h:Nat}{e:TypeId}{p m f:Bool}{n:Nat}{cs:List G}:
  Gh ⟨fr,(h,⟨e,p,m,f,n,cs,none⟩)::r,df⟩ ⟨fr,(h,⟨e,p,m,f,0,cs,none⟩)::r,df⟩:=by
 have hg:∀x k',aq ((h,(⟨e,p,m,f,0,cs,none⟩:ap))::r) x=some k'→∃k,aq ((h,(⟨e,p,m,f,n,cs,none⟩:ap))::r) x=some k∧(k'=k∨(k'=⟨e,p,m,f,0,cs,none⟩∧k=⟨e,p,m,f,n,cs,none⟩)):=by
  intro x k' hk
  simp only[aq] at hk⊢
  cases hb:Nat.beq h x with
  | true=>rw[hb] at hk;cases hk;exact⟨_,rfl,.inr ⟨rfl,rfl⟩⟩
  | false=>rw[hb] at hk;exact⟨_,hk,.inl rfl⟩
 refine Gh.of (fun N cx μ a w hr=>?_) fun x k' hk=>let ⟨k,h1,_⟩:=hg x k' hk;⟨k,h1⟩
 have hO:∀b,b<w.heap.size→¬cx.O ((h,(⟨e,p,m,f,n,cs,none⟩:ap))::r) μ b→¬cx.O ((h,(⟨e,p,m,f,0,cs,none⟩:ap))::r) μ b:=fun b _ hn ho=>hn (ho.imp id fun ⟨x,k,c,mm,h1,h2,hi⟩=>let ⟨k0,h3,_⟩:=hg x k h1;⟨x,k0,c,mm,h3,h2,hi⟩)
 refine {st:={c8:=?_,cB:=?_,bR:=?_,dZ:=?_,dY:=hr.st.dY,hb:=hr.st.hb,os:=hr.st.os,tape:=hr.st.tape,output:=hr.st.output,cY:=hr.st.cY},nd:=hr.nd.mono (Kept.refl _ _) hO,sz:=hr.sz,fr:=fun d g' hg'=>let ⟨v,h1,h2⟩:=hr.fr d g' hg';⟨v,h1,h2.mono (Kept.refl _ _) hO (az _)⟩}
 ·intro x k' hk
  obtain⟨k,h1,h2⟩:=hg x k' hk
  have hb:=(hr.st.c8 x k h1).mono (fun _ _ _ _ _=>rfl) (Kept.refl _ _) hO
  rcases h2 with h2 | ⟨h2,h3⟩
  ·rw[h2];exact hb
  ·subst h2;subst h3
   cases hm:μ x with
   | none=>rw[hm] at hb;exact hb.tJ rfl rfl rfl
   | some bm=>
    obtain⟨b,mm⟩:=bm
    rw[hm] at hb
    obtain⟨cs,q1,q2,q3,q4,q5,q6⟩:=hb.cells rfl
    exact .mk rfl (hb.kh rfl) ⟨cs,q1,q2,q3,q4,fun h0=>absurd rfl h0,q6⟩
 ·intro x x' k1 k2 y b m b' m' h1 h2
  obtain⟨k1',h1',_⟩:=hg x k1 h1
  obtain⟨k2',h2',_⟩:=hg x' k2 h2
  exact hr.st.cB x x' k1' k2' y b m b' m' h1' h2'
 ·intro x k1 b m y h1 h2 hi
  obtain⟨k,hk,c⟩:=hg x k1 h1
  obtain⟨a1,a2,a3,a4⟩:=hr.st.bR x k b m y hk h2 hi
  refine⟨a1,a2,a3,fun hm=>a4 ?_⟩
  rcases c with c | ⟨c,c'⟩
  ·rw[←c];exact hm
  ·subst c;subst c';exact hm
 ·intro x k1 h1 h2
  obtain⟨k1',h1',_⟩:=hg x k1 h1
  exact hr.st.dZ x k1' h1' h2
theorem IC (ln:Nat→Nat):∀{vs:List (TV S)},Da vs=true→pg 1 (TV.er.go ln vs)=true∧(TV.er.go ln vs).flatMap cJ=TV.er.go ln vs
 | [],_=>⟨rfl,rfl⟩
 | v::r,h=>by
  unfold Da at h
  split at h
  ·rename_i e;cases e
  ·rename_i τ _ _ r' e
   cases e
   simp only[aj] at h
   obtain⟨i1,i2⟩:=IC ln h.2
   simp only[TV.er.go,TV.er,pg,cn,i2]
   refine⟨?_,rfl⟩
   rw[i1];rfl
  ·cases h
theorem OO {d:Nat}{t:TypeId}{n:Nat}{parts:Array (Nat×Operand)}(hl:aY s) (h:Lk P s d t n parts k=some r):fA P W s ⟨some d,.buildSlice t n parts,ty,pos,after,guard⟩ k r:=by
 unfold Lk at h
 split at h
 ·rename_i hf
  split at h
  ·rename_i e hu
   split at h
   ·rename_i i hi
    split at h
    ·rename_i z hz
     split at h
     ·rename_i hs _
      split at h
      ·rename_i v vs hv
       split at h
       ·rename_i h0 τ i0 n0
        split at h
        ·rename_i hc
         simp only[aj,a6] at hc
         obtain⟨c1,c2,c3,c4⟩:=hc
         have c2:=aa c2
         have c3:=eW c3
         have hinfo:(P.info? e).map (fun i=>(i.zero,i.size,i.bytes))=some (some z,1,i.bytes):=by rw[hi,bG,hz,hs]
         obtain⟨i1,i2⟩:=IC s.ln c1
         obtain⟨e1,_⟩:=ow hf (.box e true (.ks h0 τ i0 n0::vs)) c4
         refine .one _ (EF.buildSlice (sz:=1) (z:=z) (bt:=i.bytes) (s.cP d) (gs:=TV.er.go s.ln (.ks h0 τ i0 n0::vs)) (yC hv) (by rw[cR,a5,bN,c2]) hu hinfo (by omega) (by omega) i1 (gn hf)) ?_ ((hl.add _ hf).put _ _) ⟨rfl,rfl,rfl⟩ h
         rw[fC,e1,i2]
         show Gh _ ⟨(d,.aQ (s.cP d) 1 (0*1) n)::s.er.fr,_,_⟩
         exact Gh.SV
        ·cases h
       ·cases h
      ·cases h
     ·cases h
    ·cases h
   ·cases h
  ·cases h
 ·cases h
end
end
end Go.DN
/-
 DN,part L:regions.
-/
namespace Go.DN
open Go.AM
section
variable {S:eC}
def vT (s:ah S) (c:Call):Bool:=
 match c.callee with
 | .value x=>match cm s x with
  | some (.cq _)=>true
  | _=>false
 | _=>false
def QK (s:ah S):Op→Option Call
 | .call c=>match vT s c with
  | true=>some c
  | false=>none
 | _=>none
def Qr (s:ah S):List (Nat×Operand)→Bool
 | [(_,x)]=>match cm s x with
  | some (.aQ h τ)=>match τ.fX with
   | true=>match aw s.st h with
    | some (.aU _ m _ _ _)=>m
    | _=>false
   | false=>false
  | _=>false
 | _=>false
def CT (s:ah S):List Operand→List Nat
 | []=>[]
 | x::r=>match cm s x with
  | some (.aQ h _)=>match HG s h with
   | true=>h::CT s r
   | false=>CT s r
  | _=>CT s r
def PA (s:ah S) (x:Operand):Bool:=match cm s x with
 | some (.loc h off)=>match aw s.st h with
  | some (.box _ _ cs)=>match cs[off]? with
   | some (.sub _ _ _ _)=>true
   | _=>false
  | _=>false
 | _=>false
noncomputable def M4 (P:Program) (ok:Nat→Bool){A:Type}(cl:ah S→Option Nat→Call→(ah S→Option A)→Option A) (s:ah S) (dst:Option Nat) (op:Op) (k:ah S→Option A):Option A:=
 match dst with
 | some d=>match op with
  | .box t x=>OQ s d t x k
  | .alloc t=>Iz P s d t k
  | .makeSlice t x y=>match Qa S P t with
   | true=>DI P s d t x y k
   | false=>Cz P s d t x y k
  | .load t x=>Du P ok s d t x k
  | .makeMap t n=>Hg P s d t n k
  | .buildSlice t n parts=>match S.dG&&Qr s parts.toList with
   | true=>D0 P ok s d t n parts k
   | false=>match Sa s parts.toList with
    | true=>Lk P s d t n parts k
    | false=>match pW (KA s (parts.toList.map (·.2))) s with
    | some s'=>OP P s' d t n parts k
    | none=>none
  | .binOp op t x y _=>NS P s d op t x y k
  | .call c=>match c.callee with
   | .builtin .append=>match c.args.toList with
    | x::r=>match Rl s (x::r) with
     | true=>Ix P ok s d c k
     | false=>match Oa s (x::r) with
      | true=>DK P ok s d c k
      | false=>match CT s [x] with
      | []=>match pW (CT s r) s with
       | some s=>yi s x fun s'=>OY P ok s' d c k
       | none=>none
      | _=>D1 P ok s d c k
    | []=>none
   | .builtin .copy=>Lf P ok s d c k
   | .value _=>match vT s c with
    | true=>none
    | false=>cl s (some d) c k
   | _=>none
  | _=>none
 | none=>match op with
  | .store t x y=>match cm s x with
   | some (.gI h _ _ _)=>match HG s h with
    | true=>match HD s h with
     | true=>GA P ok s t x y k
     | false=>HX P ok s t x y k
    | false=>match pW (KA s [y]) s with
     | some s'=>ym P ok s' t x y k
     | none=>none
   | _=>match Qc s x with
    | true=>Hl P ok s t x y k
    | false=>match PA s x with
     | true=>ym P ok s t x y k
     | false=>yi s y fun s'=>ym P ok s' t x y k
  | .mapUpdate t x y z=>DJ P ok s t x y z k
  | .call c=>match c.callee with
   | .builtin .clear=>Im P ok s c k
   | .value _=>match vT s c with
    | true=>none
    | false=>cl s none c k
   | _=>none
  | _=>none
def HF:Op→Bool
 | .box _ _=>true
 | .alloc _=>true
 | .makeSlice _ _ _=>true
 | .buildSlice _ _ _=>true
 | .store _ _ _=>true
 | .makeMap _ _=>true
 | .mapUpdate _ _ _ _=>true
 | .binOp op _ _ y _=>match op with
  | .eql=>match y with
   | .const (.slice none 0 0)=>true
   | _=>false
  | .neq=>match y with
   | .const (.slice none 0 0)=>true
   | _=>false
  | _=>false
 | .call c=>match c.callee with
  | .builtin .append=>true
  | .builtin .copy=>true
  | .builtin .clear=>true
  | .value _=>true
  | _=>false
 | _=>false
def HE:Op→Bool
 | .load _ _=>true
 | .lookup _ _ _ _=>true
 | _=>false
def pZ (N:Nat):Option Nat→Bool
 | some d=>Nat.blt d N
 | none=>true
def KY (s:ah S) (op:Op):Bool:=HF op||DQ s op
noncomputable def Mh (P:Program) (N:Nat) (ok:Nat→Bool){A:Type}(cl:ah S→Option Nat→Call→(ah S→Option A)→Option A) (s:ah S) (o:Oper) (k:ah S→Option A):Option A:=
 match pZ N o.dst with
 | true=>match KY s o.op with
  | true=>M4 P ok cl s o.dst o.op k
  | false=>match o.dst with
   | some d=>match HE o.op with
    | true=>IV P [] s o.op fun v=>k (s.put d v)
    | false=>Mf P s o.op fun v x=>k (s.AW d v x)
   | none=>none
 | false=>none
def nz (N:Nat) (s:ah S) (o:Oper):Option (ah S):=
 match o.dst with
 | some d=>match Nat.blt d N with
  | true=>some (s.put d (.bj []))
  | false=>none
 | none=>some {s with fr:=s.fr}
noncomputable def pD (P:Program) (N:Nat) (ok:Nat→Bool) (ops:List Oper){A:Type}(cl:ah S→Option Nat→Call→(ah S→Option A)→Option A):List Oper→ah S→(ah S→Option A)→Option A
 | [],s,k=>k s
 | o::r,s,k=>match o.guard with
  | none=>match QK s o.op with
   | some c=>cl s o.dst c fun s'=>pD P N ok ops cl r s' k
   | none=>Mh P N ok cl s o fun s'=>pD P N ok ops cl r s' k
  | some (j,want)=>match ops[j]? with
   | some oj=>match oj.dst with
    | some d=>match bc s.bW d with
     | some (.ab _ .bool b)=>match want with
      | true=>cond b (Mh P N ok cl (s.put d (.ab true .bool true)) o fun s'=>pD P N ok ops cl r s' k)
       (match nz N (s.put d (.ab true .bool false)) o with | some s'=>pD P N ok ops cl r s' k | none=>none)
      | false=>cond b (match nz N (s.put d (.ab true .bool true)) o with | some s'=>pD P N ok ops cl r s' k | none=>none)
       (Mh P N ok cl (s.put d (.ab true .bool false)) o fun s'=>pD P N ok ops cl r s' k)
     | some (.bj [])=>match nz N s o with
      | some s'=>pD P N ok ops cl r s' k
      | none=>none
     | _=>none
    | none=>none
   | none=>none
section
variable {P:Program}{N:Nat}{cx:Cx}{Q:Exit→St→Prop}{W:List Nat}{ok:Nat→Bool}{A:Type}{cl:ah S→Option Nat→Call→(ah S→Option A)→Option A}{r:A}
def Lu (P:Program) (W:List Nat) (s:ah S) (o:Oper){A:Type}(k:ah S→Option A) (kp:List PanicEntry→ah S→Option A) (r:A):Prop:=
 ∃(T:St→Prop) (Tp:List PanicEntry→St→Prop),lk P W s.er o T Tp∧(∀s',T s'→∃t:ah S,Gh s' t.er∧aY t∧bz s t∧k t=some r)∧∀ch s',Tp ch s'→∃t:ah S,Gh s' t.er∧aY t∧bz s t∧kp ch t=some r
theorem fA.p {s:ah S}{o:Oper}{k:ah S→Option A}{kp:List PanicEntry→ah S→Option A}(h:fA P W s o k r):Lu P W s o k kp r:=
 let ⟨T,h1,h2⟩:=h
 ⟨T,_,h1.p,h2,fun _ _ h=>h.elim⟩
theorem lk.tell {s:St}{o:Oper}{T:St→Prop}{Tp Tp':List PanicEntry→St→Prop}(h:lk P W s o T Tp) (ht:∀ch s',Tp ch s'→∃t,Gh s' t∧Tp' ch t):lk P W s o T Tp':=
 ⟨h.1,fun N cx μ a w hr hN K Q hK hp=>h.2 N cx μ a w hr hN K Q hK fun ch μ' s' w' hr' hT=>by
  obtain⟨t,h1,h2⟩:=ht ch s' hT
  obtain⟨μ2,h3,_⟩:=h1 N cx μ' a w' hr'
  exact hp ch μ2 t w' h3 h2⟩
def zA (P:Program) (N:Nat) (W:List Nat){A:Type}(cl:ah S→Option Nat→Call→(ah S→Option A)→Option A) (kp:List PanicEntry→ah S→Option A) (r:A):Prop:=
 ∀(s:ah S) (dst:Option Nat) (c:Call) (k:ah S→Option A),aY s→vT s c=false→cl s dst c k=some r→∀(ty:TypeId) (pos:String) (after:Array Edge) (guard:Option (Nat×Bool)),Lu P W s ⟨dst,.call c,ty,pos,after,guard⟩ k kp r
def FO (P:Program) (N:Nat) (W:List Nat){A:Type}(cl:ah S→Option Nat→Call→(ah S→Option A)→Option A) (r:A):Prop:=
 ∀(s:ah S) (dst:Option Nat) (c:Call) (k:ah S→Option A),aY s→vT s c=false→cl s dst c k=some r→∀(ty:TypeId) (pos:String) (after:Array Edge) (guard:Option (Nat×Bool)),fA P W s ⟨dst,.call c,ty,pos,after,guard⟩ k r
theorem FO.p {kp:List PanicEntry→ah S→Option A}(h:FO P N W cl r):zA P N W cl kp r:=fun s dst c k a b d ty pos after guard=>(h s dst c k a b d ty pos after guard).p
def O2 (P:Program) (N:Nat){A:Type}(cl:ah S→Option Nat→Call→(ah S→Option A)→Option A) (r:A):Prop:=
 ∀(cx:Cx) (s:ah S) (dst:Option Nat) (c:Call) (k:ah S→Option A),aY s→vT s c=true→cl s dst c k=some r→∀(ty:TypeId) (pos:String) (after:Array Edge) (ops:Array Oper) (rest:List Oper) (Q:Exit→St→Prop),
  (∀t:ah S,aY t→bz s t→k t=some r→GL P N cx ops Q rest t.er)→GL P N cx ops Q (⟨dst,.call c,ty,pos,after,none⟩::rest) s.er
theorem Nr {s:ah S}{op:Op}{c:Call}(h:QK s op=some c):op=.call c∧vT s c=true:=by
 unfold QK at h
 split at h
 ·split at h
  ·rename_i hy;cases h;exact⟨rfl,hy⟩
  ·cases h
 ·cases h
theorem H8 (hokW:∀h,ok h=true→W.contains h=true){kp:List PanicEntry→ah S→Option A}(hcl:zA P N W cl kp r){s:ah S}{o:Oper}{k:ah S→Option A}(hl:aY s) (h:M4 P ok cl s o.dst o.op k=some r):Lu P W s o k kp r:=by
 obtain⟨dst,op,ty,pos,after,guard⟩:=o
 unfold M4 at h
 dsimp only at h
 split at h
 ·split at h
  ·exact(QD hl h).p
  ·exact(Nj hl h).p
  ·split at h
   ·exact(KH hl h).p
   ·exact(NW hl h).p
  ·exact(Kn hokW hl h).p
  ·exact(Mt hl h).p
  ·split at h
   ·exact(K9 hokW hl h).p
   ·split at h
    ·exact(OO hl h).p
    ·split at h
     ·rename_i s' hz
      obtain⟨a1,a2,a3⟩:=lQ hl hz
      exact(fA.gh a1 a3 (QC a2 h)).p
     ·cases h
  ·exact(P5 hl h).p
  ·rename_i c
   obtain⟨cal,args,ts⟩:=c
   dsimp only at h
   split at h
   ·split at h
    ·split at h
     ·exact(Ni hokW hl h).p
     ·split at h
      ·exact(KJ hokW hl h).p
      ·split at h
       ·split at h
        ·rename_i s1 hz
         obtain⟨b1,b2,b3⟩:=lQ hl hz
         obtain⟨t,a1,a2,a3,a4⟩:=yh b2 h
         exact(fA.gh b1 b3 (fA.gh a1 a3 (QH hokW a2 a4))).p
        ·cases h
       ·exact(La hokW hl h).p
    ·cases h
   ·exact(OH hokW hl h).p
   ·split at h
    ·cases h
    ·rename_i hy;exact hcl _ _ _ _ hl hy h _ _ _ _
   ·cases h
  ·cases h
 ·split at h
  ·split at h
   ·split at h
    ·split at h
     ·exact(L6 hokW hl h).p
     ·exact(MY hokW hl h).p
    ·split at h
     ·rename_i s' hz
      obtain⟨a1,a2,a3⟩:=lQ hl hz
      exact(fA.gh a1 a3 (yk hokW a2 h)).p
     ·cases h
   ·split at h
    ·exact(Mw hokW hl h).p
    ·split at h
     ·exact(yk hokW hl h).p
     ·obtain⟨t,a1,a2,a3,a4⟩:=yh hl h
      exact(fA.gh a1 a3 (yk hokW a2 a4)).p
  ·exact(KI hokW hl h).p
  ·rename_i c
   obtain⟨cal,args,ts⟩:=c
   dsimp only at h
   split at h
   ·exact(M9 hokW hl h).p
   ·split at h
    ·cases h
    ·rename_i hy;exact hcl _ _ _ _ hl hy h _ _ _ _
   ·cases h
  ·cases h
theorem G3 (hokW:∀h,ok h=true→W.contains h=true){kp:List PanicEntry→ah S→Option A}(hcl:zA P N W cl kp r){s:ah S}{ops:Array Oper}{rest:List Oper}{o:Oper}{k:ah S→Option A}(hl:aY s) (hw:cW ops s.er o.guard=some true)
  (h:Mh P N ok cl s o k=some r) (hk:∀t:ah S,aY t→bz s t→k t=some r→GL P N cx ops Q rest t.er)
  (hkp:∀ch (t:ah S),aY t→bz s t→kp ch t=some r→∃u,Gh t.er u∧Q (.panic ch) u):GL P N cx ops Q (o::rest) s.er:=by
 unfold Mh at h
 split at h
 ·rename_i hd
  split at h
  ·obtain⟨T,Tp,he,hT,hTp⟩:=H8 hokW hcl hl h
   refine GL.Qu (Tp:=fun ch u=>Q (.panic ch) u) hw (fun d e=>?_) (lk.tell he fun ch s' ht=>?_) (fun s' ht=>?_) fun _ _ h=>h
   ·rw[e] at hd;simpa[pZ,fU] using hd
   ·obtain⟨t,h1,h2,h3,h4⟩:=hTp ch s' ht
    obtain⟨u,h5,h6⟩:=hkp ch t h2 h3 h4
    exact⟨u,h1.trans h5,h6⟩
   ·obtain⟨t,h1,h2,h3,h4⟩:=hT s' ht
    exact GL.gh h1 (hk t h2 h3 h4)
  ·split at h
   ·rename_i d e
    obtain⟨dst,op,ty,pos,after,guard⟩:=o
    dsimp only at e h hd
    subst e
    have hN:d<N:=by simpa[pZ,fU] using hd
    split at h
    ·obtain⟨v,h1,h2⟩:=BV (dst:=some d) (ty:=ty) (pos:=pos) (after:=after) (guard:=guard) hl h
     exact GL.yield hw rfl hN h1 (hk _ (hl.put d v) ⟨rfl,rfl,rfl⟩ h2)
    ·obtain⟨v,x,h1,h2,h3⟩:=GN (dst:=some d) (ty:=ty) (pos:=pos) (after:=after) (guard:=guard) h
     refine GL.yield hw rfl hN (h1.yield []) ?_
     rw[←Dz s d v x]
     exact hk _ (Dy hl d h2) (rM s d v x) h3
   ·cases h
 ·cases h
theorem AR {s t:ah S}{ops:Array Oper}{rest:List Oper}{o:Oper}(hl:aY s) (hw:cW ops s.er o.guard=some false) (h:nz N s o=some t) (hk:aY t→bz s t→GL P N cx ops Q rest t.er):GL P N cx ops Q (o::rest) s.er:=by
 unfold nz at h
 obtain⟨dst,op,ty,pos,after,guard⟩:=o
 dsimp only at h
 split at h
 ·split at h
  ·rename_i hN
   cases h
   exact GL.SW hw hN (hk (hl.put _ _) ⟨rfl,rfl,rfl⟩)
  ·cases h
 ·cases h
  refine GL.pass hw ?_
  exact hk hl ⟨rfl,rfl,rfl⟩
theorem ux {ops:List Oper}{s:ah S}{j d:Nat}{want b:Bool}{oj:Oper}(h1:ops[j]?=some oj) (h2:oj.dst=some d) (h3:bc s.bW d=some (.ab true .bool b)):cW ops.toArray s.er (some (j,want))=some (b==want):=by
 have:get s.er.fr d=some (.val (.bool b)):=by rw[show get s.er.fr d=_ from fc h3];exact congrArg some (fZ true b)
 simp[cW,h1,h2,this]
theorem Ly {ops:List Oper}{s:ah S}{j d:Nat}{want:Bool}{oj:Oper}(h1:ops[j]?=some oj) (h2:oj.dst=some d) (h3:bc s.bW d=some (.bj [])):cW ops.toArray s.er (some (j,want))=some false:=by
 have:get s.er.fr d=some (.bj []):=by rw[show get s.er.fr d=_ from fc h3];rfl
 simp[cW,h1,h2,this]
theorem CA {s:ah S}{ops:Array Oper}{rest:List Oper}{d:Nat}{f b v:Bool}(h:bc s.bW d=some (.ab f .bool b)) (hb:b=v) (hk:GL P N cx ops Q rest (s.put d (.ab true .bool v)).er):GL P N cx ops Q rest s.er:=by
 refine GL.lit d (b:=b) (v:=v) ?_ hb ?_
 ·rw[show get s.er.fr d=_ from fc h];exact congrArg some (fZ f b)
 ·rw[fC] at hk
  have e:(TV.ab true .bool v:TV S).er s.ln=.val (.bool v):=fZ true v
  rw[e] at hk
  exact hk
theorem pe (hokW:∀h,ok h=true→W.contains h=true){kp:List PanicEntry→ah S→Option A}(hcl:zA P N W cl kp r) (hyl:O2 P N cl r){ops:List Oper}:∀{rest:List Oper}{s:ah S}{k:ah S→Option A},aY s→pD P N ok ops cl rest s k=some r→
  (∀t:ah S,aY t→bz s t→k t=some r→Q .normal t.er)→(∀ch (t:ah S),aY t→bz s t→kp ch t=some r→∃u,Gh t.er u∧Q (.panic ch) u)→GL P N cx ops.toArray Q rest s.er
 | [],s,k,hl,h,hk,_=>GL.nil (hk s hl (bz.refl s) h)
 | o::rest,s,k,hl,h,hk,hkp=>by
  simp only[pD] at h
  split at h
  ·rename_i hg
   split at h
   ·rename_i c hc
    obtain⟨e1,e2⟩:=Nr hc
    obtain⟨dst,op,ty,pos,after,guard⟩:=o
    dsimp only at hg e1 h
    subst hg;subst e1
    exact hyl cx s dst c _ hl e2 h ty pos after _ _ _ fun t hl' hkp' h'=>pe hokW hcl hyl hl' h' (fun t2 a1 a2 a3=>hk t2 a1 (bz.trans ⟨hkp'.lo,hkp'.bL,hkp'.df⟩ a2) a3) fun ch t2 a1 a2 a3=>hkp ch t2 a1 (bz.trans ⟨hkp'.lo,hkp'.bL,hkp'.df⟩ a2) a3
   exact G3 hokW hcl hl (by rw[hg];rfl) h (fun t hl' hkp' h'=>pe hokW hcl hyl hl' h' (fun t2 a1 a2 a3=>hk t2 a1 (bz.trans ⟨hkp'.lo,hkp'.bL,hkp'.df⟩ a2) a3) fun ch t2 a1 a2 a3=>hkp ch t2 a1 (bz.trans ⟨hkp'.lo,hkp'.bL,hkp'.df⟩ a2) a3) hkp
  ·rename_i j want hg
   split at h
   ·rename_i oj hj
    split at h
    ·rename_i d hd
     split at h
     ·rename_i f b hb
      have hlt:=fun v=>aY.put hl d (.ab true .bool v:TV S)
      have ht:∀v,bc (s.put d (.ab true .bool v)).bW d=some (.ab true .bool v):=fun v=>by simp only[ah.put,ah.bW,bx,bc,aH,cond_true]
      split at h
      ·cases hbv:b with
       | true=>
        rw[hbv] at h
        refine CA hb hbv (G3 hokW hcl (hlt true) ?_ h (fun t hl' hkp' h'=>pe hokW hcl hyl hl' h' (fun t2 a1 a2 a3=>hk t2 a1 (bz.trans ⟨hkp'.lo,hkp'.bL,hkp'.df⟩ a2) a3) fun ch t2 a1 a2 a3=>hkp ch t2 a1 (bz.trans ⟨hkp'.lo,hkp'.bL,hkp'.df⟩ a2) a3) fun ch t2 a1 a2 a3=>hkp ch t2 a1 ⟨a2.lo,a2.bL,a2.df⟩ a3)
        rw[hg,ux hj hd (ht true)];rfl
       | false=>
        rw[hbv] at h
        dsimp only[cond_false] at h
        refine CA hb hbv ?_
        split at h
        ·rename_i s' hs
         exact AR (hlt false) (by rw[hg,ux hj hd (ht false)];rfl) hs fun hl' hkp'=>pe hokW hcl hyl hl' h (fun t2 a1 a2 a3=>hk t2 a1 (bz.trans ⟨hkp'.lo,hkp'.bL,hkp'.df⟩ a2) a3) fun ch t2 a1 a2 a3=>hkp ch t2 a1 (bz.trans ⟨hkp'.lo,hkp'.bL,hkp'.df⟩ a2) a3
        ·cases h
      ·cases hbv:b with
       | true=>
        rw[hbv] at h
        dsimp only[cond_true] at h
        refine CA hb hbv ?_
        split at h
        ·rename_i s' hs
         exact AR (hlt true) (by rw[hg,ux hj hd (ht true)];rfl) hs fun hl' hkp'=>pe hokW hcl hyl hl' h (fun t2 a1 a2 a3=>hk t2 a1 (bz.trans ⟨hkp'.lo,hkp'.bL,hkp'.df⟩ a2) a3) fun ch t2 a1 a2 a3=>hkp ch t2 a1 (bz.trans ⟨hkp'.lo,hkp'.bL,hkp'.df⟩ a2) a3
        ·cases h
       | false=>
        rw[hbv] at h
        refine CA hb hbv (G3 hokW hcl (hlt false) ?_ h (fun t hl' hkp' h'=>pe hokW hcl hyl hl' h' (fun t2 a1 a2 a3=>hk t2 a1 (bz.trans ⟨hkp'.lo,hkp'.bL,hkp'.df⟩ a2) a3) fun ch t2 a1 a2 a3=>hkp ch t2 a1 (bz.trans ⟨hkp'.lo,hkp'.bL,hkp'.df⟩ a2) a3) fun ch t2 a1 a2 a3=>hkp ch t2 a1 ⟨a2.lo,a2.bL,a2.df⟩ a3)
        rw[hg,ux hj hd (ht false)];rfl
     ·rename_i hb
      split at h
      ·rename_i s' hs
       exact AR hl (by rw[hg,Ly hj hd hb]) hs fun hl' hkp'=>pe hokW hcl hyl hl' h (fun t2 a1 a2 a3=>hk t2 a1 (bz.trans ⟨hkp'.lo,hkp'.bL,hkp'.df⟩ a2) a3) fun ch t2 a1 a2 a3=>hkp ch t2 a1 (bz.trans ⟨hkp'.lo,hkp'.bL,hkp'.df⟩ a2) a3
      ·cases h
     ·cases h
    ·cases h
   ·cases h
end
end
end Go.DN
/-
 DN,part M:regions that draw their order.
-/
namespace Go.DN
open Go.AM
section
variable {S:eC}
def pI (s:ah S):List Operand→Bool
 | []=>false
 | x::r=>match cm s x with
  | some (.bj [])=>true
  | _=>pI s r
def calm (W:List Nat) (s:ah S) (o:Oper):Bool:=
 match o.op with
 | .load _ x=>match cm s x with
  | some (.ptr _ _ _)=>true
  | some (.loc h _)=>!(W.contains h)
  | some (.gI h _ _ _)=>!(W.contains h)
  | some (.bj [])=>true
  | _=>false
 | .call c=>match HF (.call c) with
  | true=>pI s c.args.toList
  | false=>true
 | .binOp op t x y t'=>match HF (.binOp op t x y t') with
  | true=>pI s [x]
  | false=>true
 | .lookup _ _ _ _=>false
 | op=>!(HF op)
def off (s:ah S) (o:Oper):Bool:=
 match o.op with
 | .load _ x=>pI s [x]
 | .call c=>pI s c.args.toList
 | .binOp _ _ x _ _=>pI s [x]
 | _=>false
def pick (f:Oper→Bool) (ops:Array Oper) (listed:Array Bool):List Nat→Option (Nat×Oper)
 | []=>none
 | i::r=>match ops[i]? with
  | some o=>match f o&&Region.free .any ops listed i with
   | true=>some (i,o)
   | false=>pick f ops listed r
  | none=>pick f ops listed r
theorem qB {f:Oper→Bool}{ops:Array Oper}{listed:Array Bool}:∀{l:List Nat}{i:Nat}{o:Oper},pick f ops listed l=some (i,o)→i∈l∧ops[i]?=some o∧f o=true∧Region.free .any ops listed i=true
 | [],_,_,h=>by cases h
 | j::r,i,o,h=>by
  simp only[pick] at h
  split at h
  ·rename_i o' ho
   split at h
   ·rename_i hc
    cases h
    simp only[aj] at hc
    exact⟨av,ho,hc.1,hc.2⟩
   ·obtain⟨h1,h2⟩:=qB h
    exact⟨ao _ h1,h2⟩
  ·obtain⟨h1,h2⟩:=qB h
   exact⟨ao _ h1,h2⟩
def vV (N:Nat) (ops:Array Oper) (s:ah S) (o:Oper){A:Type}(run:ah S→Option A) (skip:ah S→Option A):Option A:=
 match o.guard with
 | none=>run s
 | some (j,want)=>match ops[j]? with
  | some oj=>match oj.dst with
   | some d=>match bc s.bW d with
    | some (.ab _ .bool b)=>match want with
     | true=>cond b (run (s.put d (.ab true .bool true))) (match nz N (s.put d (.ab true .bool false)) o with | some s'=>skip s' | none=>none)
     | false=>cond b (match nz N (s.put d (.ab true .bool true)) o with | some s'=>skip s' | none=>none) (run (s.put d (.ab true .bool false)))
    | some (.bj [])=>match nz N s o with
     | some s'=>skip s'
     | none=>none
    | _=>none
   | none=>none
  | none=>none
open Classical in
noncomputable def uj {A:Type}(x y:Option A):Option A:=if x=y then x else none
theorem OZ {A:Type}{x y:Option A}{r:A}(h:uj x y=some r):x=some r∧y=some r:=by
 unfold uj at h
 split at h
 ·rename_i e
  exact⟨h,e▸h⟩
 ·cases h
theorem ui {A:Type}(x:Option A):uj x x=x:=by unfold uj;simp
noncomputable def vu {A:Type}(x:Option A):Option A:=uj x x
theorem sa {A:Type}(x:Option A):vu x=x:=ui x
noncomputable def O0 {A:Type}:List (Option A)→Option A
 | []=>none
 | [x]=>x
 | x::r=>uj x (O0 r)
theorem Fb {A:Type}:∀{l:List (Option A)}{r:A},O0 l=some r→∀x∈l,x=some r
 | [],_,h,x,hx=>by cases hx
 | [y],r,h,x,hx=>by simp at hx;subst hx;exact h
 | y::z::l,r,h,x,hx=>by
  obtain⟨h1,h2⟩:=OZ h
  rcases aX.1 hx with e | hx
  ·subst e;exact h1
  ·exact Fb h2 x hx
def Hx (ops:Array Oper) (s:ah S) (o:Oper):Bool:=
 match o.guard with
 | none=>true
 | some (j,want)=>match ops[j]? with
  | some oj=>match oj.dst with
   | some d=>match bc s.bW d with
    | some (.ab _ .bool b)=>match b with
     | true=>want
     | false=>!want
    | _=>false
   | none=>false
  | none=>false
theorem MG {ops:Array Oper}{s:ah S}{o:Oper}(h:Hx ops s o=true):cW ops s.er o.guard=some true:=by
 unfold Hx at h
 split at h
 ·rename_i hg;rw[hg];rfl
 ·rename_i j want hg
  rw[hg]
  split at h
  ·rename_i oj hj
   split at h
   ·rename_i d hd
    split at h
    ·rename_i f b hb
     have:get s.er.fr d=some (.val (.bool b)):=by rw[show get s.er.fr d=_ from fc hb];exact congrArg some (fZ f b)
     have hw:cW ops s.er (some (j,want))=some (b==want):=by simp[cW,hj,hd,this]
     rw[hw]
     cases b <;> cases want <;> first | rfl | cases h
    ·cases h
   ·cases h
  ·cases h
def og (ops:Array Oper){A:Type}:List Nat→ah S→(ah S→Option A)→Option A
 | [],s,k=>k s
 | i::r,s,k=>match ops[i]? with
  | some o=>match o.guard with
   | some (j,_)=>match ops[j]? with
    | some oj=>match oj.dst with
     | some d=>match bc s.bW d with
      | some (.ab _ .bool b)=>cond b (og ops r (s.put d (.ab true .bool true)) k) (og ops r (s.put d (.ab true .bool false)) k)
      | _=>og ops r s k
     | none=>og ops r s k
    | none=>og ops r s k
   | none=>og ops r s k
  | none=>og ops r s k
def NR (ops:Array Oper) (s:ah S) (o:Oper):Bool:=
 match o.guard with
 | none=>false
 | some (j,want)=>match ops[j]? with
  | some oj=>match oj.dst with
   | some d=>match bc s.bW d with
    | some (.ab _ .bool b)=>match b with
     | true=>!want
     | false=>want
    | some (.bj [])=>true
    | _=>false
   | none=>false
  | none=>false
noncomputable def kM (P:Program) (N:Nat) (ok:Nat→Bool) (ops:Array Oper){A:Type}(cl:ah S→Option Nat→Call→(ah S→Option A)→Option A):Nat→Array Bool→ah S→(ah S→Option A)→Option A
 | 0,listed,s,k=>match Region.ready .any ops listed with
  | []=>k s
  | _=>none
 | aJ+1,listed,s,k=>match Region.ready .any ops listed with
  | []=>k s
  | i0::rs=>match pick (fun o=>pZ N o.dst&&((!(HE o.op)&&!(HF o.op))||off s o)&&o.dst.isSome) ops listed (i0::rs) with
   | some (i,o)=>vV N ops s o (fun s'=>match o.dst with
     | some d=>Mf P s' o.op fun v x=>kM P N ok ops cl aJ (listed.setIfInBounds i true) (s'.AW d v x) k
     | none=>none) (fun s'=>kM P N ok ops cl aJ (listed.setIfInBounds i true) s' k)
   | none=>match rs with
    | []=>match ops[i0]? with
     | some o=>match pZ N o.dst with
      | true=>match o.dst,HE o.op&&!(DQ s o.op) with
       | some d,true=>vV N ops s o (fun s'=>IV P [] s' o.op fun v=>kM P N ok ops cl aJ (listed.setIfInBounds i0 true) (s'.put d v) k) (fun s'=>match Region.free .any ops listed i0 with
        | true=>kM P N ok ops cl aJ (listed.setIfInBounds i0 true) s' k
        | false=>none)
       | _,_=>match KY s o.op with
        | true=>vV N ops s o (fun s'=>M4 P ok cl s' o.dst o.op fun s2=>kM P N ok ops cl aJ (listed.setIfInBounds i0 true) s2 k) (fun s'=>match Region.free .any ops listed i0 with
         | true=>kM P N ok ops cl aJ (listed.setIfInBounds i0 true) s' k
         | false=>none)
        | false=>none
      | false=>none
     | none=>none
    | _=>og ops (i0::rs) s fun s=>match pick (fun o=>pZ N o.dst&&NR ops s o&&o.dst.isSome) ops listed (i0::rs) with
     | some (i,o)=>match nz N s o with
      | some s'=>kM P N ok ops cl aJ (listed.setIfInBounds i true) s' k
      | none=>none
     | none=>O0 ((i0::rs).map fun i=>match ops[i]? with
      | some o=>match pZ N o.dst&&Hx ops s o with
       | true=>match o.dst,HE o.op&&!(DQ s o.op) with
        | some d,true=>IV P [] s o.op fun v=>kM P N ok ops cl aJ (listed.setIfInBounds i true) (s.put d v) k
        | _,_=>match KY s o.op with
         | true=>M4 P ok cl s o.dst o.op fun s2=>kM P N ok ops cl aJ (listed.setIfInBounds i true) s2 k
         | false=>none
       | false=>none
      | none=>none)
noncomputable def vX (P:Program) (N:Nat) (ok:Nat→Bool) (W:List Nat) (ops:Array Oper){A:Type}(cl:ah S→Option Nat→Call→(ah S→Option A)→Option A):Nat→Array Bool→ah S→(ah S→Option A)→Option A
 | 0,listed,s,k=>kM P N ok ops cl 0 listed s k
 | aJ+1,listed,s,k=>match pick (fun o=>pZ N o.dst&&calm W s o&&o.dst.isSome) ops listed (Region.ready .any ops listed) with
  | some (i,o)=>vV N ops s o (fun s'=>match o.dst with
    | some d=>match HE o.op with
     | true=>IV P W s' o.op fun v=>vX P N ok W ops cl aJ (listed.setIfInBounds i true) (s'.put d v) k
     | false=>Mf P s' o.op fun v x=>vX P N ok W ops cl aJ (listed.setIfInBounds i true) (s'.AW d v x) k
    | none=>none) (fun s'=>vX P N ok W ops cl aJ (listed.setIfInBounds i true) s' k)
  | none=>kM P N ok ops cl (aJ+1) listed s k
noncomputable def u3 (P:Program) (N:Nat) (ok:Nat→Bool) (W:List Nat) (ops:Array Oper){A:Type}(cl:ah S→Option Nat→Call→(ah S→Option A)→Option A) (s:ah S) (k:ah S→Option A):Option A:=
 match Region.noSelect ops&&qK ops.toList with
 | true=>vX P N ok W ops cl ops.size (Array.replicate ops.size false) s k
 | false=>none
section
variable {P:Program}{N:Nat}{cx:Cx}{Q:Exit→St→Prop}{W:List Nat}{ok:Nat→Bool}{A:Type}{cl:ah S→Option Nat→Call→(ah S→Option A)→Option A}{r:A}{ops:Array Oper}
theorem sL {s:ah S}{j d:Nat}{want b:Bool}{oj:Oper}(h1:ops[j]?=some oj) (h2:oj.dst=some d) (h3:bc s.bW d=some (.ab true .bool b)):cW ops s.er (some (j,want))=some (b==want):=by
 have:get s.er.fr d=some (.val (.bool b)):=by rw[show get s.er.fr d=_ from fc h3];exact congrArg some (fZ true b)
 simp[cW,h1,h2,this]
theorem JW {s:ah S}{j d:Nat}{want:Bool}{oj:Oper}(h1:ops[j]?=some oj) (h2:oj.dst=some d) (h3:bc s.bW d=some (.bj [])):cW ops s.er (some (j,want))=some false:=by
 have:get s.er.fr d=some (.bj []):=by rw[show get s.er.fr d=_ from fc h3];rfl
 simp[cW,h1,h2,this]
theorem P3 {s:ah S}{o:Oper}(h:NR ops s o=true):cW ops s.er o.guard=some false:=by
 unfold NR at h
 split at h
 ·cases h
 ·rename_i j want hg
  rw[hg]
  split at h
  ·rename_i oj hj
   split at h
   ·rename_i d hd
    split at h
    ·rename_i f b hb
     have:get s.er.fr d=some (.val (.bool b)):=by rw[show get s.er.fr d=_ from fc hb];exact congrArg some (fZ f b)
     have hw:cW ops s.er (some (j,want))=some (b==want):=by simp[cW,hj,hd,this]
     rw[hw]
     cases b <;> cases want <;> first | rfl | cases h
    ·rename_i hb
     have:get s.er.fr d=some (.bj []):=fc hb
     simp[cW,hj,hd,this]
    ·cases h
   ·cases h
  ·cases h
theorem lq {X:St→Prop}(hlit:∀(s:St) (t:Nat) (b v:Bool),get s.fr t=some (.val (.bool b))→b=v→X {fr:=(t,.val (.bool v))::s.fr,st:=s.st,df:=s.df}→X s):∀{l:List Nat}{s:ah S}{k:ah S→Option A},aY s→og ops l s k=some r→
  (∀t:ah S,aY t→bz s t→k t=some r→X t.er)→X s.er
 | [],s,k,hl,h,hk=>hk s hl (bz.refl s) h
 | i::l,s,k,hl,h,hk=>by
  have lit:∀{s:ah S}{d:Nat}{f b:Bool}(v:Bool),bc s.bW d=some (.ab f .bool b)→b=v→X (s.put d (.ab true .bool v)).er→X s.er:=by
   intro s d f b v hb e hX
   refine hlit _ d b v ?_ e ?_
   ·rw[show get s.er.fr d=_ from fc hb];exact congrArg some (fZ f b)
   ·rw[fC] at hX
    have e2:(TV.ab true .bool v:TV S).er s.ln=.val (.bool v):=fZ true v
    rw[e2] at hX
    exact hX
  simp only[og] at h
  split at h
  ·split at h
   ·split at h
    ·split at h
     ·rename_i d _
      split at h
      ·rename_i f b hb
       cases hbv:b with
       | true=>
        rw[hbv] at h
        exact lit true hb hbv (lq hlit (hl.put d _) h fun t a1 a2 a3=>hk t a1 ⟨a2.lo,a2.bL,a2.df⟩ a3)
       | false=>
        rw[hbv] at h
        exact lit false hb hbv (lq hlit (hl.put d _) h fun t a1 a2 a3=>hk t a1 ⟨a2.lo,a2.bL,a2.df⟩ a3)
      ·exact lq hlit hl h hk
     ·exact lq hlit hl h hk
    ·exact lq hlit hl h hk
   ·exact lq hlit hl h hk
  ·exact lq hlit hl h hk
theorem uT {X:St→Prop}(hlit:∀(s:St) (t:Nat) (b v:Bool),get s.fr t=some (.val (.bool b))→b=v→X {fr:=(t,.val (.bool v))::s.fr,st:=s.st,df:=s.df}→X s)
  {s:ah S}{o:Oper}{run skip:ah S→Option A}(hl:aY s) (h:vV N ops s o run skip=some r)
  (hrun:∀t:ah S,aY t→bz s t→cW ops t.er o.guard=some true→run t=some r→X t.er)
  (hskip:∀(t t':ah S),aY t→bz s t→cW ops t.er o.guard=some false→nz N t o=some t'→skip t'=some r→X t.er):X s.er:=by
 unfold vV at h
 have lit:∀{s:ah S}{d:Nat}{f b:Bool}(v:Bool),bc s.bW d=some (.ab f .bool b)→b=v→X (s.put d (.ab true .bool v)).er→X s.er:=by
  intro s d f b v hb e hX
  refine hlit _ d b v ?_ e ?_
  ·rw[show get s.er.fr d=_ from fc hb];exact congrArg some (fZ f b)
  ·rw[fC] at hX
   have e2:(TV.ab true .bool v:TV S).er s.ln=.val (.bool v):=fZ true v
   rw[e2] at hX
   exact hX
 split at h
 ·rename_i hg
  exact hrun s hl (bz.refl s) (by rw[hg];rfl) h
 ·rename_i j want hg
  split at h
  ·rename_i oj hj
   split at h
   ·rename_i d hd
    split at h
    ·rename_i f b hb
     have hlt:=fun v=>aY.put hl d (.ab true .bool v:TV S)
     have ht:∀v,bc (s.put d (.ab true .bool v)).bW d=some (.ab true .bool v):=fun v=>by simp only[ah.put,ah.bW,bx,bc,aH,cond_true]
     split at h
     ·cases hbv:b with
      | true=>
       rw[hbv] at h
       exact lit true hb hbv (hrun _ (hlt true) ⟨rfl,rfl,rfl⟩ (by rw[hg,sL hj hd (ht true)];rfl) h)
      | false=>
       rw[hbv] at h
       dsimp only[cond_false] at h
       refine lit false hb hbv ?_
       split at h
       ·rename_i s' hs
        exact hskip _ s' (hlt false) ⟨rfl,rfl,rfl⟩ (by rw[hg,sL hj hd (ht false)];rfl) hs h
       ·cases h
     ·cases hbv:b with
      | true=>
       rw[hbv] at h
       dsimp only[cond_true] at h
       refine lit true hb hbv ?_
       split at h
       ·rename_i s' hs
        exact hskip _ s' (hlt true) ⟨rfl,rfl,rfl⟩ (by rw[hg,sL hj hd (ht true)];rfl) hs h
       ·cases h
      | false=>
       rw[hbv] at h
       exact lit false hb hbv (hrun _ (hlt false) ⟨rfl,rfl,rfl⟩ (by rw[hg,sL hj hd (ht false)];rfl) h)
    ·rename_i hb
     split at h
     ·rename_i s' hs
      exact hskip _ s' hl (bz.refl s) (by rw[hg,JW hj hd hb]) hs h
     ·cases h
    ·cases h
   ·cases h
  ·cases h
theorem pA {s t:ah S}{o:Oper}{d:Nat}(hd:o.dst=some d) (h:nz N s o=some t):d<N∧t=s.put d (.bj []):=by
 unfold nz at h
 rw[hd] at h
 dsimp only at h
 split at h
 ·rename_i hN
  cases h
  exact⟨by simpa[fU] using hN,rfl⟩
 ·cases h
theorem dO.R4 {s:St}{aJ:Nat}{listed:Array Bool}(i:Nat){o:Oper}(hi:ops[i]?=some o) (hs:Region.noSelect ops=true) (hf:Region.free .any ops listed i=true)
  (hr:(Region.ready .any ops listed).contains i=true) (hw:cW ops s o.guard=some false) (hd:o.dst=none)
  (h:dO P N cx ops Q W aJ (listed.setIfInBounds i true) s):dO P N cx ops Q W (aJ+1) listed s:=by
 intro ws Wb μ a w hrel hS hW
 refine wpAnyH_take (v:=undef) hi hs hf hr (fun c a' w' h=>(by rw[hd] at h;exact h)) (.inr ⟨dK hrel hw,rfl⟩) hS ?_
 rw[hd]
 exact h ws Wb μ _ w hrel hS hW
theorem iL (hokW:∀h,ok h=true→W.contains h=true){kp:List PanicEntry→ah S→Option A}(hcl:zA P N W cl kp r) (hs:Region.noSelect ops=true) (hpn:Df Q (qS ops)):∀{aJ:Nat}{listed:Array Bool}{s:ah S}{k:ah S→Option A},aY s→kM P N ok ops cl aJ listed s k=some r→
  (∀t:ah S,aY t→bz s t→k t=some r→Q .normal t.er)→(∀ch (t:ah S),aY t→bz s t→kp ch t=some r→∃u,Gh t.er u∧Q (.panic ch) u)→dO P N cx ops Q W aJ listed s.er
 | 0,listed,s,k,hl,h,hk,hkp=>by
  unfold kM at h
  split at h
  ·rename_i hr
   exact dO.done hr (hk s hl (bz.refl s) h)
  ·cases h
 | aJ+1,listed,s,k,hl,h,hk,hkp0=>by
  unfold kM at h
  split at h
  ·rename_i hr
   exact dO.done hr (hk s hl (bz.refl s) h)
  ·rename_i i0 rs hr
   split at h
   ·rename_i i o hp
    obtain⟨p1,p2,p3,p4⟩:=qB hp
    simp only[aj] at p3
    obtain⟨⟨q1,q2⟩,q4⟩:=p3
    have hcon:(Region.ready .any ops listed).contains i=true:=by rw[hr];exact fJ.2 p1
    refine uT (X:=fun s=>dO P N cx ops Q W (aJ+1) listed s) (fun s t b v h1 h2 h3=>dO.lit t h1 h2 h3) hl h (fun t hl' hkp hw h'=>?_) (fun t t' hl' hkp hw hsk h'=>?_)
    ·cases hd:o.dst with
     | none=>rw[hd] at q4;cases q4
     | some d=>
      rw[hd] at h' q1
      dsimp only at h'
      have hN:d<N:=by simpa[pZ,fU] using q1
      obtain⟨v,x,h1,h2,h3⟩:=GN (dst:=o.dst) (ty:=o.type) (pos:=o.pos) (after:=o.after) (guard:=o.guard) h'
      refine dO.take i hpn p2 hs p4 hcon hw hd hN h1 ?_
      rw[←Dz t d v x]
      exact iL hokW hcl hs hpn (Dy hl' d h2) h3 (fun t2 a1 a2 a3=>hk t2 a1 ((hkp.trans (rM t d v x)).trans a2) a3) fun ch t2 a1 a2 a3=>hkp0 ch t2 a1 ((hkp.trans (rM t d v x)).trans a2) a3
    ·cases hd:o.dst with
     | none=>rw[hd] at q4;cases q4
     | some d=>
      obtain⟨hN,e⟩:=pA hd hsk
      subst e
      exact dO.zI i hpn p2 hs p4 hcon hw hd hN (iL hokW hcl hs hpn (hl'.put _ _) h' (fun t2 a1 a2 a3=>hk t2 a1 (hkp.trans ⟨a2.lo,a2.bL,a2.df⟩) a3) fun ch t2 a1 a2 a3=>hkp0 ch t2 a1 (hkp.trans ⟨a2.lo,a2.bL,a2.df⟩) a3)
   ·split at h
    ·split at h
     ·rename_i o ho
      split at h
      ·rename_i hdN
       split at h
       ·rename_i d hd hld
        have hN:d<N:=by rw[hd] at hdN;simpa[pZ,fU] using hdN
        refine uT (X:=fun s=>dO P N cx ops Q W (aJ+1) listed s) (fun s t b v h1 h2 h3=>dO.lit t h1 h2 h3) hl h (fun t hl' hkp hw h'=>?_) (fun t t' hl' hkp hw hsk h'=>?_)
        ·obtain⟨v,h1,h2⟩:=BV (dst:=o.dst) (ty:=o.type) (pos:=o.pos) (after:=o.after) (guard:=o.guard) hl' h'
         exact dO.SE i0 hr ho hw hd hN h1 (iL hokW hcl hs hpn (hl'.put d v) h2 (fun t2 a1 a2 a3=>hk t2 a1 (hkp.trans ⟨a2.lo,a2.bL,a2.df⟩) a3) fun ch t2 a1 a2 a3=>hkp0 ch t2 a1 (hkp.trans ⟨a2.lo,a2.bL,a2.df⟩) a3)
        ·split at h'
         ·rename_i hf
          obtain⟨_,e⟩:=pA hd hsk
          subst e
          exact dO.zI i0 hpn ho hs hf (by rw[hr];simp) hw hd hN (iL hokW hcl hs hpn (hl'.put _ _) h' (fun t2 a1 a2 a3=>hk t2 a1 (hkp.trans ⟨a2.lo,a2.bL,a2.df⟩) a3) fun ch t2 a1 a2 a3=>hkp0 ch t2 a1 (hkp.trans ⟨a2.lo,a2.bL,a2.df⟩) a3)
         ·cases h'
       ·split at h
        ·refine uT (X:=fun s=>dO P N cx ops Q W (aJ+1) listed s) (fun s t b v h1 h2 h3=>dO.lit t h1 h2 h3) hl h (fun t hl' hkp hw h'=>?_) (fun t t' hl' hkp hw hsk h'=>?_)
         ·obtain⟨T,Tp,h1,h2,h2p⟩:=H8 hokW hcl hl' h'
          refine dO.SF i0 hr ho hw (fun d e=>?_) (lk.tell (Tp':=fun ch u=>Q (.panic ch) u) h1 fun ch s' ht=>?_) (fun s' ht=>?_) fun _ _ h=>h
          ·rw[e] at hdN;simpa[pZ,fU] using hdN
          ·obtain⟨t2,g1,g2,g3,g4⟩:=h2p ch s' ht
           obtain⟨u,g5,g6⟩:=hkp0 ch t2 g2 (hkp.trans g3) g4
           exact⟨u,g1.trans g5,g6⟩
          ·obtain⟨t2,g1,g2,g3,g4⟩:=h2 s' ht
           exact dO.gh g1 (iL hokW hcl hs hpn g2 g4 (fun t3 a1 a2 a3=>hk t3 a1 ((hkp.trans g3).trans a2) a3) fun ch t3 a1 a2 a3=>hkp0 ch t3 a1 ((hkp.trans g3).trans a2) a3)
         ·split at h'
          ·rename_i hf
           cases hd:o.dst with
           | none=>
            unfold nz at hsk
            rw[hd] at hsk
            dsimp only at hsk
            cases hsk
            exact dO.R4 i0 ho hs hf (by rw[hr];simp) hw hd (iL hokW hcl hs hpn hl' h' (fun t2 a1 a2 a3=>hk t2 a1 (hkp.trans ⟨a2.lo,a2.bL,a2.df⟩) a3) fun ch t2 a1 a2 a3=>hkp0 ch t2 a1 (hkp.trans ⟨a2.lo,a2.bL,a2.df⟩) a3)
           | some d=>
            obtain⟨hN,e⟩:=pA hd hsk
            subst e
            exact dO.zI i0 hpn ho hs hf (by rw[hr];simp) hw hd hN (iL hokW hcl hs hpn (hl'.put _ _) h' (fun t2 a1 a2 a3=>hk t2 a1 (hkp.trans ⟨a2.lo,a2.bL,a2.df⟩) a3) fun ch t2 a1 a2 a3=>hkp0 ch t2 a1 (hkp.trans ⟨a2.lo,a2.bL,a2.df⟩) a3)
          ·cases h'
        ·cases h
      ·cases h
     ·cases h
    ·refine lq (X:=fun s=>dO P N cx ops Q W (aJ+1) listed s) (fun s t b v h1 h2 h3=>dO.lit t h1 h2 h3) hl h fun s1 hl1 hk1 h=>?_
     split at h
     ·rename_i i o hp
      obtain⟨p1,p2,p3,p4⟩:=qB hp
      simp only[aj] at p3
      obtain⟨⟨q1,q2⟩,q4⟩:=p3
      have hcon:(Region.ready .any ops listed).contains i=true:=by rw[hr];exact fJ.2 p1
      split at h
      ·rename_i s' hsk
       cases hd:o.dst with
       | none=>rw[hd] at q4;cases q4
       | some d=>
        obtain⟨hN,e⟩:=pA hd hsk
        subst e
        exact dO.zI i hpn p2 hs p4 hcon (P3 q2) hd hN (iL hokW hcl hs hpn (hl1.put _ _) h (fun t2 a1 a2 a3=>hk t2 a1 (hk1.trans ⟨a2.lo,a2.bL,a2.df⟩) a3) fun ch t2 a1 a2 a3=>hkp0 ch t2 a1 (hk1.trans ⟨a2.lo,a2.bL,a2.df⟩) a3)
      ·cases h
     ·have hall:=Fb h
      refine dO.any i0 rs hr ?_
      have en:∀i,i∈i0::rs→um P N cx ops Q W aJ listed s1.er i:=by
       intro i hi
       have hx:=hall _ (jD hi)
       split at hx
       ·rename_i o ho
        split at hx
        ·rename_i hc
         simp only[aj] at hc
         obtain⟨hdN,hkn⟩:=hc
         have hw:=MG hkn
         split at hx
         ·rename_i d hd hld
          have hN:d<N:=by rw[hd] at hdN;simpa[pZ,fU] using hdN
          obtain⟨v,h1,h2⟩:=BV (dst:=o.dst) (ty:=o.type) (pos:=o.pos) (after:=o.after) (guard:=o.guard) hl1 hx
          exact um.y i ho hw hd hN h1 (iL hokW hcl hs hpn (hl1.put d v) h2 (fun t2 a1 a2 a3=>hk t2 a1 (hk1.trans ⟨a2.lo,a2.bL,a2.df⟩) a3) fun ch t2 a1 a2 a3=>hkp0 ch t2 a1 (hk1.trans ⟨a2.lo,a2.bL,a2.df⟩) a3)
         ·split at hx
          ·obtain⟨T,Tp,h1,h2,h2p⟩:=H8 hokW hcl hl1 hx
           refine um.eP i ho hw (fun d e=>?_) (lk.tell (Tp':=fun ch u=>Q (.panic ch) u) h1 fun ch s' ht=>?_) (fun s' ht=>?_) fun _ _ h=>h
           ·rw[e] at hdN;simpa[pZ,fU] using hdN
           ·obtain⟨t2,g1,g2,g3,g4⟩:=h2p ch s' ht
            obtain⟨u,g5,g6⟩:=hkp0 ch t2 g2 (hk1.trans g3) g4
            exact⟨u,g1.trans g5,g6⟩
           ·obtain⟨t2,g1,g2,g3,g4⟩:=h2 s' ht
            exact dO.gh g1 (iL hokW hcl hs hpn g2 g4 (fun t3 a1 a2 a3=>hk t3 a1 (hk1.trans (g3.trans a2)) a3) fun ch t3 a1 a2 a3=>hkp0 ch t3 a1 (hk1.trans (g3.trans a2)) a3)
          ·cases hx
        ·cases hx
       ·cases hx
      clear hr hall h
      generalize i0::rs=l at en
      induction l with
      | nil=>exact trivial
      | cons x r ih=>exact⟨en x av,ih fun i hi=>en i (ao _ hi)⟩
theorem u2 (hokW:∀h,ok h=true→W.contains h=true){kp:List PanicEntry→ah S→Option A}(hcl:zA P N W cl kp r) (hs:Region.noSelect ops=true) (hpn:Df Q (qS ops)):∀{aJ:Nat}{listed:Array Bool}{s:ah S}{k:ah S→Option A},aY s→vX P N ok W ops cl aJ listed s k=some r→
  (∀t:ah S,aY t→bz s t→k t=some r→Q .normal t.er)→(∀ch (t:ah S),aY t→bz s t→kp ch t=some r→∃u,Gh t.er u∧Q (.panic ch) u)→l8 P N cx ops Q W aJ listed s.er
 | 0,listed,s,k,hl,h,hk,hkp0=>l8.FA (iL hokW hcl hs hpn hl h hk hkp0)
 | aJ+1,listed,s,k,hl,h,hk,hkp0=>by
  unfold vX at h
  split at h
  ·rename_i i o hp
   obtain⟨p1,p2,p3,p4⟩:=qB hp
   simp only[aj] at p3
   obtain⟨⟨q1,q2⟩,q4⟩:=p3
   have hcon:(Region.ready .any ops listed).contains i=true:=fJ.2 p1
   refine uT (X:=fun s=>l8 P N cx ops Q W (aJ+1) listed s) (fun s t b v h1 h2 h3=>l8.lit t h1 h2 h3) hl h (fun t hl' hkp hw h'=>?_) (fun t t' hl' hkp hw hsk h'=>?_)
   ·cases hd:o.dst with
    | none=>rw[hd] at q4;cases q4
    | some d=>
     rw[hd] at h' q1
     dsimp only at h'
     have hN:d<N:=by simpa[pZ,fU] using q1
     split at h'
     ·obtain⟨v,h1,h2⟩:=BV (dst:=o.dst) (ty:=o.type) (pos:=o.pos) (after:=o.after) (guard:=o.guard) hl' h'
      exact l8.take i hpn p2 hs p4 hcon hw hd hN h1 (u2 hokW hcl hs hpn (hl'.put d v) h2 (fun t2 a1 a2 a3=>hk t2 a1 (hkp.trans ⟨a2.lo,a2.bL,a2.df⟩) a3) fun ch t2 a1 a2 a3=>hkp0 ch t2 a1 (hkp.trans ⟨a2.lo,a2.bL,a2.df⟩) a3)
     ·obtain⟨v,x,h1,h2,h3⟩:=GN (dst:=o.dst) (ty:=o.type) (pos:=o.pos) (after:=o.after) (guard:=o.guard) h'
      refine l8.take i hpn p2 hs p4 hcon hw hd hN (h1.yield W) ?_
      rw[←Dz t d v x]
      exact u2 hokW hcl hs hpn (Dy hl' d h2) h3 (fun t2 a1 a2 a3=>hk t2 a1 ((hkp.trans (rM t d v x)).trans a2) a3) fun ch t2 a1 a2 a3=>hkp0 ch t2 a1 ((hkp.trans (rM t d v x)).trans a2) a3
   ·cases hd:o.dst with
    | none=>rw[hd] at q4;cases q4
    | some d=>
     obtain⟨hN,e⟩:=pA hd hsk
     subst e
     exact l8.zI i hpn p2 hs p4 hcon hw hd hN (u2 hokW hcl hs hpn (hl'.put _ _) h' (fun t2 a1 a2 a3=>hk t2 a1 (hkp.trans ⟨a2.lo,a2.bL,a2.df⟩) a3) fun ch t2 a1 a2 a3=>hkp0 ch t2 a1 (hkp.trans ⟨a2.lo,a2.bL,a2.df⟩) a3)
  ·exact l8.FA (iL hokW hcl hs hpn hl h hk hkp0)
theorem H9 {id:Nat}(hm:P.follows .mixedOrders=true) (hokW:∀h,ok h=true→W.contains h=true){kp:List PanicEntry→ah S→Option A}(hcl:zA P N W cl kp r){s:ah S}{k:ah S→Option A}(hl:aY s) (h:u3 P N ok W ops cl s k=some r)
  (hk:∀t:ah S,aY t→bz s t→k t=some r→Q .normal t.er) (hkp:∀ch (t:ah S),aY t→bz s t→kp ch t=some r→∃u,Gh t.er u∧Q (.panic ch) u∧∀d,d∈qS ops→get u.fr d=none):GW P N cx (.region id ops true) Q s.er:=by
 unfold u3 at h
 split at h
 ·rename_i hc
  simp only[aj] at hc
  refine(GW.FJ (Q:=fun e s=>Q e s∧∀ch,e=.panic ch→∀d,d∈qS ops→get s.fr d=none) W hm (u2 hokW hcl hc.1 (fun c s h d hd=>h.2 c rfl d hd) hl h (fun t a b c=>⟨hk t a b c,fun ch e=>by cases e⟩) fun ch t a b c=>?_) hc.2).mono fun e s h=>h.1
  obtain⟨u,g1,g2,g3⟩:=hkp ch t a b c
  exact⟨u,g1,g2,fun _ _=>g3⟩
 ·cases h
end
end
end Go.DN
