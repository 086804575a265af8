/-
  DN, second part.
-/
import Derived.Test.YtfkigaldejbeiaaMgC
import Derived.Test.YtfkigaldejbeiaaMgF
set_option linter.unusedSectionVars false
set_option linter.unusedSimpArgs false
set_option linter.unusedVariables false
/-
 DN,part Kd:slices of slices.
-/
namespace Go.DN
open Go.AM
def br (d:Nat):List Nat→Bool
 | []=>false
 | x::r=>bif Nat.beq x d then true else br d r
theorem bO {d:Nat}:∀{l:List Nat},br d l=true↔d∈l
 | []=>by simp[br]
 | x::r=>by
  simp only[br,aX]
  cases hb:Nat.beq x d with
  | true=>have:=aa hb;subst this;simp
  | false=>
   rw[cond_false,bO]
   constructor
   ·exact .inr
   ·rintro(e | h)
    ·subst e;rw[aG] at hb;cases hb
    ·exact h
section
variable {S:eB}
theorem gE {t:ah S}(h:t.last=[]):aY t:=fun d hh x hm=>by rw[h] at hm;cases hm
def TV.eF (h:Nat):TV S→TV S
 | .kp x τ i j=>bif Nat.beq x h then .any else .kp x τ i j
 | .fA b x τ i j=>bif Nat.beq x h&&!b then .any else .fA b x τ i j
 | .ks x τ i n=>bif Nat.beq x h then .any else .ks x τ i n
 | .agg l=>.agg (go l)
 | .bj l=>.bj (go l)
 | .aM f l=>.aM f (go l)
 | v=>v
where go:List (TV S)→List (TV S)
 | []=>[]
 | v::r=>v.eF h::go r
theorem Qk {h:Nat}{m:G}(hm:Pl m) (f:Bool):AM.eF h (dq f m)=dq f m:=by
 rcases hm with ⟨u,rfl⟩ | ⟨n,cs,rfl⟩ <;> cases f <;> rfl
mutual
theorem Ld (ln:Nat→Nat) (h:Nat):∀v:TV S,(v.eF h).er ln=AM.eF h (v.er ln)
 | .af f τ a=>by
  cases τ with
  | st n=>
   show G.agg ((aK S (.st n) a).map (dq f))=.agg (AM.eF.go h ((aK S (.st n) a).map (dq f)))
   have hp:=rI (S:=S) (.st n) a
   generalize aK S (.st n) a=l at hp
   congr 1
   induction l with
   | nil=>rfl
   | cons x r ih=>
    simp only[aH,AM.eF.go]
    rw[Qk (hp x av),←ih fun y hy=>hp y (ao _ hy)]
  | _=>cases f <;> rfl
 | .ptr f τ a=>by cases f <;> rfl
 | .agg l=>by show G.agg _=G.agg _;rw[vd ln h l]
 | .bj l=>by show G.bj _=G.bj _;rw[vd ln h l]
 | .aM f l=>by show G.aM _ _=G.aM _ _;rw[vd ln h l]
 | .kp x τ i j=>by
  show(bif Nat.beq x h then(TV.any:TV S) else .kp x τ i j).er ln=bif Nat.beq x h then G.any else .kp x i (j*S.sz τ)
  cases Nat.beq x h <;> rfl
 | .fA b x τ i j=>by
  cases b with
  | true=>
   show(bif Nat.beq x h&&false then _ else _:TV S).er ln=.val _
   rw[Bool.and_false];rfl
  | false=>
   show(bif Nat.beq x h&&true then _ else _:TV S).er ln=bif Nat.beq x h then G.any else .kp x i (j*S.sz τ)
   cases Nat.beq x h <;> rfl
 | .ks x τ i n=>by
  show(bif Nat.beq x h then(TV.any:TV S) else .ks x τ i n).er ln=bif Nat.beq x h then G.any else .ks x i (S.sz τ) n
  cases Nat.beq x h <;> rfl
 | .loc _ _=>rfl
 | .gF _ _ _ _=>rfl
 | .aO _ _=>rfl
 | .sub _ _ _ _=>rfl
 | .cq _=>rfl
 | .mp _=>rfl
 | .val _=>rfl
 | .any=>rfl
theorem vd (ln:Nat→Nat) (h:Nat):∀l:List (TV S),TV.er.go ln (TV.eF.go h l)=AM.eF.go h (TV.er.go ln l)
 | []=>rfl
 | v::r=>by simp only[TV.eF.go,TV.er.go,AM.eF.go,Ld ln h v,vd ln h r]
end
mutual
theorem Lc {h:Nat}:∀v:TV S,v.has h=false→v.eF h=v
 | .kp x τ i j,e=>by
  show(bif Nat.beq x h then _ else _)=_
  rw[show Nat.beq x h=false from e];rfl
 | .fA b x τ i j,e=>by
  have e:(Nat.beq x h&&!b)=false:=e
  show(bif Nat.beq x h&&!b then _ else _)=_
  rw[e];rfl
 | .ks x τ i n,e=>by
  show(bif Nat.beq x h then _ else _)=_
  rw[show Nat.beq x h=false from e];rfl
 | .agg l,e=>congrArg TV.agg (vc l e)
 | .bj l,e=>congrArg TV.bj (vc l e)
 | .aM f l,e=>congrArg (TV.aM f) (vc l e)
 | .af _ _ _,_=>rfl
 | .ptr _ _ _,_=>rfl
 | .loc _ _,_=>rfl
 | .gF _ _ _ _,_=>rfl
 | .aO _ _,_=>rfl
 | .sub _ _ _ _,_=>rfl
 | .cq _,_=>rfl
 | .mp _,_=>rfl
 | .val _,_=>rfl
 | .any,_=>rfl
theorem vc {h:Nat}:∀l:List (TV S),TV.has.go h l=false→TV.eF.go h l=l
 | [],_=>rfl
 | v::r,e=>by
  simp only[TV.has.go,bD] at e
  simp only[TV.eF.go,Lc v e.1,vc r e.2]
end
theorem yB {h t:Nat}:∀{fr:List (Nat×G)}{g:G},AM.get fr t=some g→AM.get (mq h fr) t=some (AM.eF h g)
 | [],_,e=>by cases e
 | (k,g')::r,g,e=>by
  simp only[AM.get] at e
  simp only[mq,AM.get]
  cases hb:Nat.beq k t with
  | true=>rw[hb] at e;cases e;rfl
  | false=>rw[hb] at e;exact yB e
def yA (v:TV S):List Nat→Bool
 | []=>false
 | x::r=>v.has x||yA v r
def TV.fk (h:Nat) (rm:List Nat) (v:TV S):TV S:=match yA v rm with | true=>.any | false=>v.eF h
def Ms (h:Nat) (rm:List Nat):List (Nat×TV S)→List (Nat×TV S)
 | []=>[]
 | (t,v)::r=>(t,v.fk h rm)::Ms h rm r
def TO.fk (h:Nat) (rm:List Nat):TO S→TO S
 | .box e m cs=>.box e m (cs.map (TV.fk h rm))
 | .lp l n cs=>.lp l n (cs.map (TV.fk h rm))
 | o=>o
def Hs (h:Nat) (rm:List Nat):List (Nat×TO S)→List (Nat×TO S)
 | []=>[]
 | (t,o)::r=>match br t rm with
  | true=>Hs h rm r
  | false=>(t,o.fk h rm)::Hs h rm r
def ah.hand (s:ah S) (h:Nat) (rm:List Nat) (o:TO S):ah S:={s with fr:=Ms h rm s.fr,st:=(h,o)::Hs h rm s.st,last:=[]}
def inner (s:ah S):List Nat→Bool
 | []=>true
 | x::r=>(match aw s.bL x with | none=>true | some _=>false)&&(!(TV.has.go x s.df)&&(!(gl x s.lo)&&!(eH x s.bL)))&&inner s r
theorem OY {h:Nat}{rm:List Nat}{v:TV S}(h1:v.has h=false) (h2:yA v rm=false):v.fk h rm=v:=by
 unfold TV.fk;rw[h2];exact Lc v h1
theorem Q3 (h:Nat) (rm:List Nat) (o:TO S):(o.fk h rm).len=o.len:=by cases o <;> rfl
theorem FH {h:Nat}{rm:List Nat}:∀{fr:List (Nat×TV S)}{d:Nat},bc (Ms h rm fr) d=(bc fr d).map (TV.fk h rm)
 | [],_=>rfl
 | (t,v)::r,d=>by
  simp only[Ms,bc]
  cases Nat.beq t d with
  | true=>rfl
  | false=>exact FH
theorem AP {h:Nat}{rm:List Nat}:∀{st:List (Nat×TO S)}{x:Nat},aw (Hs h rm st) x=match br x rm with | true=>none | false=>(aw st x).map (TO.fk h rm)
 | [],x=>by simp only[Hs,aw,Option.map_none];cases br x rm <;> rfl
 | (t,o)::r,x=>by
  simp only[Hs]
  split
  ·rename_i hm
   rw[AP]
   simp only[aw]
   cases hb:Nat.beq t x with
   | true=>
    have:=aa hb
    subst this
    rw[hm]
   | false=>rfl
  ·rename_i hm
   simp only[aw]
   cases hb:Nat.beq t x with
   | true=>
    have:=aa hb
    subst this
    rw[hm];rfl
   | false=>exact AP
theorem Du {v:TV S}:∀{rm:List Nat},(∀x,x∈rm→v.has x=false)→yA v rm=false
 | [],_=>rfl
 | x::r,h=>by simp only[yA,h x av,Du fun y hy=>h y (ao _ hy),Bool.or_self]
theorem Ew {v:TV S}:∀{rm:List Nat},yA v rm=false→∀x,x∈rm→v.has x=false
 | [],_,_,hm=>by cases hm
 | x::r,h,y,hm=>by
  simp only[yA,bD] at h
  rcases aX.1 hm with rfl | hm
  ·exact h.1
  ·exact Ew h.2 y hm
theorem iZ {s:ah S}:∀{rm:List Nat},inner s rm=true→∀x,x∈rm→aw s.bL x=none∧TV.has.go x s.df=false∧gl x s.lo=false∧eH x s.bL=false
 | [],_,_,hm=>by cases hm
 | y::r,h,x,hm=>by
  simp only[inner,ai,a6] at h
  rcases aX.1 hm with rfl | hm
  ·refine⟨?_,h.1.2.1,h.1.2.2.1,h.1.2.2.2⟩
   cases hq:aw s.bL x with
   | none=>rfl
   | some o=>rw[hq] at h;cases h.1.1
  ·exact iZ h.2 x hm
theorem Hn {s:ah S}{h:Nat}{rm:List Nat}{o:TO S}(hi:inner s (h::rm)=true) (hh:h∉rm) (x:Nat):aw (s.hand h rm o).bg x=bif Nat.beq h x then some o else match br x rm with | true=>none | false=>(aw s.bg x).map (TO.fk h rm):=by
 show aw ((h,o)::(Hs h rm s.st++s.bL)) x=_
 simp only[aw]
 cases hb:Nat.beq h x with
 | true=>rfl
 | false=>
  simp only[cond_false]
  rw[db,AP]
  show _=match br x rm with | true=>none | false=>(aw (s.st++s.bL) x).map (TO.fk h rm)
  rw[db]
  cases hm:br x rm with
  | true=>exact(iZ hi x (ao _ (bO.1 hm))).1
  | false=>
   dsimp only
   cases h1:aw s.st x with
   | some o=>rfl
   | none=>
    show aw s.bL x=(aw s.bL x).map _
    cases h2:aw s.bL x with
    | none=>rfl
    | some o2=>
     rw[bG]
     have hn:∀y,y∈h::rm→o2.has y=false:=fun y hy=>oS h2 (iZ hi y hy).2.2.2
     have hL:∀l:List (TV S),(∀y,y∈h::rm→TV.has.go y l=false)→l.map (TV.fk h rm)=l:=by
      intro l
      induction l with
      | nil=>intro _;rfl
      | cons v r ih=>
       intro hv
       have hv':∀y,y∈h::rm→v.has y=false∧TV.has.go y r=false:=fun y hy=>by
        have:=hv y hy
        simpa[TV.has.go] using this
       rw[aH,ih fun y hy=>(hv' y hy).2,OY (hv' h av).1 (Du fun y hy=>(hv' y (ao _ hy)).1)]
     cases o2 with
     | box e m cs=>simp only[TO.fk];rw[hL cs hn]
     | lp l n cs=>simp only[TO.fk];rw[hL cs hn]
     | _=>rfl
theorem NP {s:ah S}{h:Nat}{rm:List Nat}{o:TO S}(hi:inner s (h::rm)=true) (d:Nat):bc (s.hand h rm o).bW d=(bc s.bW d).map (TV.fk h rm):=by
 show bc (Ms h rm s.fr++s.lo) d=(bc (s.fr++s.lo) d).map _
 rw[jV,jV,FH]
 cases bc s.fr d with
 | some v=>rfl
 | none=>
  show bc s.lo d=(bc s.lo d).map _
  cases h2:bc s.lo d with
  | none=>rfl
  | some v=>rw[bG,OY (na h2 (iZ hi h av).2.2.1) (Du fun y hy=>na h2 (iZ hi y (ao _ hy)).2.2.1)]
theorem Dv {s:ah S}{h:Nat}{rm:List Nat}{o o':TO S}{s1:St}(ho:aw s.st h=some o) (hlen:o'.len=o.len) (hln:∀ln ln',o'.er ln=o'.er ln') (hi:inner s (h::rm)=true) (hh:h∉rm)
  (h1:s1.fr=mq h s.er.fr) (h2:aq s1.st h=some (o'.er s.ln)) (h3:∀x k0,x≠h→x∉rm→aq s.er.st x=some k0→aq s1.st x=some (qk h k0)) (h4:s1.df=AM.eF.go h s.er.df):
  Gh s1 (s.hand h rm o').er∧aY (s.hand h rm o')∧bz s (s.hand h rm o'):=by
 have hag:∀x,x∉rm→s.ln x=(s.hand h rm o').ln x:=by
  intro x hx
  show bZ s.bg x=bZ (s.hand h rm o').bg x
  unfold bZ
  rw[Hn hi hh]
  cases hb:Nat.beq h x with
  | true=>
   have:=aa hb
   subst this
   rw[dQ ho];exact hlen.symm
  | false=>
   have hm:br x rm=false:=by
    cases hm:br x rm with
    | false=>rfl
    | true=>exact absurd (bO.1 hm) hx
   rw[hm]
   simp only[cond_false]
   cases aw s.bg x with
   | none=>rfl
   | some o=>exact(Q3 h rm o).symm
 have hcv:∀v:TV S,CV s1.st (s.hand h rm o').er.st (AM.eF h (v.er s.ln)) ((v.fk h rm).er (s.hand h rm o').ln):=by
  intro v
  unfold TV.fk
  cases hv:yA v rm with
  | true=>exact CV.any _ _ _
  | false=>
   dsimp only
   rw[Ld,oJ (ln:=s.ln) (ln':=(s.hand h rm o').ln) v fun k hk=>hag k fun hm=>by rw[Ew hv k hm] at hk;cases hk]
   exact CV.refl _ _ _
 have hcvL:∀cs:List (TV S),Ia s1.st (s.hand h rm o').er.st (AM.eF.go h (TV.er.go s.ln cs)) (TV.er.go (s.hand h rm o').ln (cs.map (TV.fk h rm))):=by
  intro cs
  induction cs with
  | nil=>exact⟨rfl,fun j g' hg'=>by simp[TV.er.go] at hg'⟩
  | cons v r ih=>
   refine⟨by simp only[aH,TV.er.go,AM.eF.go,bN,ih.1],fun j g' hg'=>?_⟩
   simp only[aH,TV.er.go,AM.eF.go] at hg'⊢
   cases j with
   | zero=>cases hg';exact⟨_,rfl,hcv v⟩
   | succ j=>exact ih.2 j g' hg'
 refine⟨Gh.gen (fun d g' hg'=>?_) (fun x k' hk'=>?_) ?_,gE rfl,⟨rfl,rfl,rfl⟩⟩
 ·obtain⟨v',e1,rfl⟩:=wV hg'
  rw[NP hi] at e1
  obtain⟨v,e2,rfl⟩:=au.1 e1
  refine⟨AM.eF h (v.er s.ln),?_,hcv v⟩
  rw[h1]
  exact yB (eZ e2)
 ·obtain⟨o2,e1,rfl⟩:=oU hk'
  rw[Hn hi hh] at e1
  cases hb:Nat.beq h x with
  | true=>
   rw[hb] at e1
   cases e1
   have:=aa hb
   subst this
   refine⟨_,h2,?_⟩
   rw[hln (s.hand h rm o').ln s.ln]
   exact oq.refl _ _ _
  | false=>
   rw[hb] at e1
   simp only[cond_false] at e1
   split at e1
   ·cases e1
   ·rename_i hm
    obtain⟨o3,e2,rfl⟩:=au.1 e1
    refine⟨_,h3 x _ (fun e=>by subst e;rw[aG] at hb;cases hb) (fun e=>by rw[bO.2 e] at hm;cases hm) (fJ e2),?_⟩
    cases o3 with
    | box e m cs=>exact⟨rfl,id,rfl,rfl,rfl,(hcvL cs).1,.inr ⟨rfl,(hcvL cs).2⟩⟩
    | lp l n cs=>exact⟨rfl,id,rfl,rfl,rfl,(hcvL cs).1,.inr ⟨rfl,(hcvL cs).2⟩⟩
    | aT e m f τ l=>exact oq.refl _ _ _
    | deep e m f dk τ a=>exact oq.refl _ _ _
 ·rw[h4]
  show AM.eF.go h (TV.er.go s.ln s.df)=TV.er.go (s.hand h rm o').ln s.df
  have hd:=fun x hx=>(iZ hi x hx).2.1
  rw[←vd,vc _ (hd h av)]
  exact lq _ fun k hk=>hag k fun hm=>by rw[hd k (ao _ hm)] at hk;cases hk
def vQ {α:Type}:List (List α)→Bool
 | []=>true
 | []::r=>vQ r
 | (_::_)::_=>false
theorem xw {α:Type}:∀{l:List (List α)},vQ l=true→∀r,r∈l→r=[]
 | []::l,h,r,hm=>by
  rcases aX.1 hm with e | hm
  ·exact e
  ·exact xw (l:=l) h r hm
 | (_::_)::_,h,_,_=>by cases h
theorem tV {α:Type}:∀n:Nat,vQ (List.replicate n ([]:List α))=true
 | 0=>rfl
 | n+1=>by rw[nR];exact tV n
theorem IN (t:Ty):∀{l:List (List (S.D t))},vQ l=true→(List.flatMap (aK S (.list t)) l).map (fun _=>((0,[]):Nat×List G))=List.map (fun r=>(List.length r,List.flatMap (aK S t) r)) l
 | [],_=>rfl
 | x::r,h=>by
  have hx:=xw h x av
  subst hx
  rw[cn,kv,IN t (l:=r) h];rfl
def EY (s:ah S) (h kty:Nat){A:Type}(k:ah S→Option A):Option A:=
 match Nat.blt h 1000&&inner s [h] with
 | true=>match aw s.st h with
  | some (.aT e m f (.list t) l)=>(bq (vQ l=true)).bind fun _=>k (s.hand h [] (.deep e m f (.dG kty) (.list (.list t)) l))
  | _=>none
 | false=>none
theorem Fy {s:ah S}{h kty:Nat}{A:Type}{k:ah S→Option A}{r:A}(hl:aY s) (e:EY s h kty k=some r):∃t,Gh s.er t.er∧aY t∧bz s t∧k t=some r:=by
 unfold EY at e
 split at e
 ·rename_i hc
  simp only[ai] at hc
  split at e
  ·rename_i bM m f t l ho
   obtain⟨_,h1,e⟩:=bind_some e
   have h1:=cj h1
   have hk:=cO (dQ ho)
   have hcs:∀g∈((TO.aT bM m f (.list t) l:TO S).er s.ln).cells,g=.sl 0 []:=by
    intro g hg
    have hg:g∈List.flatMap (aK S (.list t)) l:=hg
    obtain⟨r,hr,hg⟩:=g7.1 hg
    rw[xw h1 r hr] at hg
    exact cB.1 hg
   have hrows:(((TO.aT bM m f (.list t) l:TO S).er s.ln).cells.map fun _=>((0,[]):Nat×List G))=(dD (.list (.list t)) l).2:=by
    exact IN t h1
   obtain⟨g1,g2,g3⟩:=Dv (s:=s) (h:=h) (rm:=[]) (o':=.deep bM m f (.dG kty) (.list (.list t)) l)
    (s1:={fr:=mq h s.er.fr,st:=bw (jj h s.er.st) h {((TO.aT bM m f (.list t) l:TO S).er s.ln) with cells:=[],lp:=some (.deep (ij bM kty (S.sz t) (dD (.list (.list t)) l).2))},df:=AM.eF.go h s.er.df})
    ho rfl (fun _ _=>rfl) hc.2 (by simp) rfl (by rw[eY (iG hk)];rfl) (fun x k0 hx _ h0=>by show aq (bw _ _ _) _=_;rw[eK hx];exact iG h0) rfl
   refine⟨_,Gh.trans (fun N cx μ a w hr=>?_) g1,g2,g3,e⟩
   have:=hr.RY hk rfl rfl rfl hcs (gS hc.1) kty (S.sz t)
   rw[hrows] at this
   exact this
  ·cases e
 ·cases e
def Fv (s:ah S) (h:Nat):Option (ah S):=
 match Nat.blt h 1000&&inner s [h] with
 | true=>match aw s.st h with
  | some (.deep e true f (.dG _) (.list (.list t)) l)=>some (s.hand h [] (.aT e true f (.list t) l))
  | _=>none
 | false=>none
theorem Lb {s t:ah S}{h:Nat}(hl:aY s) (e:Fv s h=some t):Gh s.er t.er∧aY t∧bz s t:=by
 unfold Fv at e
 split at e
 ·rename_i hc
  simp only[ai] at hc
  split at e
  ·rename_i bM f kty t l ho
   cases e
   have hk:=cO (dQ ho)
   have hrows:(dD (.list (.list t)) l).2.map (fun r=>G.sl r.1 r.2)=List.flatMap (aK S (.list t)) l:=by
    show List.map _ (List.map _ l)=_
    clear ho hk
    induction l with
    | nil=>rfl
    | cons x r ih=>rw[aH,aH,ih,cn];rfl
   obtain⟨g1,g2,g3⟩:=Dv (s:=s) (h:=h) (rm:=[]) (o':=.aT bM true f (.list t) l)
    (s1:={fr:=mq h s.er.fr,st:=bw (jj h s.er.st) h {((TO.deep bM true f (.dG kty) (.list (.list t)) l:TO S).er s.ln) with cells:=(dD (.list (.list t)) l).2.map (fun r=>G.sl r.1 r.2),lp:=none},df:=AM.eF.go h s.er.df})
    ho rfl (fun _ _=>rfl) hc.2 (by simp) rfl (by rw[eY (iG hk),hrows];rfl) (fun x k0 hx _ h0=>by show aq (bw _ _ _) _=_;rw[eK hx];exact iG h0) rfl
   exact⟨Gh.trans (fun N cx μ a w hr=>hr.Rs hk rfl rfl rfl rfl (gS hc.1)) g1,g2,g3⟩
  ·cases e
 ·cases e
def CT (s:ah S) (h:Nat):Option (ah S):=
 none
theorem Jy {s t:ah S}{h:Nat}(hl:aY s) (e:CT s h=some t):Gh s.er t.er∧aY t∧bz s t:=by
 unfold CT at e
 cases e
def Hc (s:ah S) (h:Nat):Bool:=match aw s.bg h with
 | some (.deep _ _ _ (.rows _ _) _ _)=>true
 | _=>false
def Hf (s:ah S) (h:Nat):Bool:=match aw s.bg h with
 | some (.deep ..)=>true
 | _=>false
def zD (s:ah S) (h:Nat):Option (ah S):=
 match Hf s h with
 | true=>match (match Hc s h with | true=>CT s h | false=>Fv s h) with
  | some s'=>zE s' h
  | none=>none
 | false=>zE s h
theorem Cp {s t:ah S}{h:Nat}(hl:aY s) (hf:zD s h=some t):Gh s.er t.er∧aY t∧bz s t:=by
 unfold zD at hf
 split at hf
 ·split at hf
  ·rename_i s' hs
   have hs2:Gh s.er s'.er∧aY s'∧bz s s':=by
    split at hs
    ·exact Jy hl hs
    ·exact Lb hl hs
   obtain⟨a1,a2,a3⟩:=hs2
   obtain⟨b1,b2,b3⟩:=Cq a2 hf
   exact⟨a1.trans b1,b2,a3.trans b3⟩
  ·cases hf
 ·exact Cq hl hf
def Dz {A:Type}:(dk:Dk)→(τ':Ty)→S.D τ'→Ty→TypeId→Ty→(τ2:Ty)→List (S.D τ2)→Nat→(S.D τ'→Option A)→Option A
 | .dG kty,.list (.list u),ll,τ,e2,t2,τ2,l2,i,k=>match Nat.beq e2 kty with
  | true=>match decEq τ (.list u),decEq t2 u with
   | isTrue _,isTrue _=>match ik (.list τ2) (.list u) l2 with
    | some l=>(bq (i<List.length ll)).bind fun _=>k (List.set ll i l)
    | none=>none
   | _,_=>none
  | false=>none
 | _,_,_,_,_,_,_,_,_,_=>none
theorem KG {A:Type}{r0:A}:∀{dk:Dk}{τ':Ty}{a:S.D τ'}{τ:Ty}{e2:TypeId}{t2 τ2:Ty}{l2:List (S.D τ2)}{i:Nat}{k:S.D τ'→Option A},Dz dk τ' a τ e2 t2 τ2 l2 i k=some r0→
  ∃a',dk=.dG e2∧τ=.list t2∧t2=τ2∧(dD τ' a).1=S.sz τ2∧i<(dD τ' a).2.length∧k a'=some r0∧rO τ' a'=rO τ' a∧(dD τ' a').1=(dD τ' a).1∧
   (dD τ' a').2=(dD τ' a).2.set i (List.length l2,List.flatMap (aK S τ2) l2)
 | .dG kty,.list (.list u),ll,τ,e2,t2,τ2,l2,i,k,h=>by
  simp only[Dz] at h
  split at h
  ·rename_i he
   have he:=aa he
   subst he
   split at h
   ·rename_i q1 q2 _ _
    subst q1;subst q2
    split at h
    ·rename_i l hl
     obtain⟨q,hl⟩:=nK hl
     subst q
     cases hl
     obtain⟨_,h1,h⟩:=bind_some h
     have h1:=cj h1
     refine⟨_,rfl,rfl,rfl,rfl,by show i<(List.map _ ll).length;rw[a5];exact h1,h,by show(List.set ll i l2).length=ll.length;exact de,rfl,?_⟩
     show List.map _ (List.set ll i l2)=List.set (List.map _ ll) i _
     rw[kz]
    ·cases h
   ·cases h
  ·cases h
 | .dG _,.list (.int _),_,_,_,_,_,_,_,_,h=>by cases h
 | .dG _,.list .bool,_,_,_,_,_,_,_,_,h=>by cases h
 | .dG _,.list .str,_,_,_,_,_,_,_,_,h=>by cases h
 | .dG _,.list (.st _),_,_,_,_,_,_,_,_,h=>by cases h
 | .dG _,.int _,_,_,_,_,_,_,_,_,h=>by cases h
 | .dG _,.bool,_,_,_,_,_,_,_,_,h=>by cases h
 | .dG _,.str,_,_,_,_,_,_,_,_,h=>by cases h
 | .dG _,.st _,_,_,_,_,_,_,_,_,h=>by cases h
def Hu (P:Program) (ok:Nat→Bool) (s:ah S) (t:TypeId) (x y:Operand){A:Type}(k:ah S→Option A):Option A:=
 match cm s x with
 | some (.gF h τ i 0)=>match cm s y with
  | some (.aO h2 t2)=>match ok h&&(ok h2&&(Nat.blt h 1000&&(!(Nat.beq h2 h)&&inner s [h,h2]))) with
   | true=>match aw s.st h with
    | some (.deep e m f dk τ' a)=>match aw s.st h2 with
     | some (.aT e2 m2 f2 τ2 l2)=>match decEq (kq P t) (some 1) with
      | isTrue _=>match !m||m2 with
       | true=>Dz dk τ' a τ e2 t2 τ2 l2 i fun a'=>k (s.hand h [h2] (.deep e m (f&&f2) dk τ' a'))
       | false=>none
      | isFalse _=>none
     | _=>none
    | _=>none
   | false=>none
  | _=>none
 | _=>none
theorem Mw {P:Program}{W:List Nat}{ok:Nat→Bool}(hokW:∀h,ok h=true→W.contains h=true){s:ah S}{t:TypeId}{x y:Operand}{ty:TypeId}{pos:String}{after:Array Edge}{guard:Option (Nat×Bool)}{A:Type}{k:ah S→Option A}{r:A}
  (hl:aY s) (h:Hu P ok s t x y k=some r):fx P W s ⟨none,.store t x y,ty,pos,after,guard⟩ k r:=by
 unfold Hu at h
 split at h
 ·rename_i hh τ i hx
  split at h
  ·rename_i h2 t2 hy
   split at h
   ·rename_i hc
    simp only[ai,a6] at hc
    obtain⟨c1,c2,c3,c4,c5⟩:=hc
    split at h
    ·rename_i e m f dk τ' a ho
     split at h
     ·rename_i e2 m2 f2 τ2 l2 ho2
      split at h
      ·rename_i hsz _
       split at h
       ·rename_i hm
        obtain⟨a',q1,q2,q3,q4,q5,q6,q7,q8,q9⟩:=KG h
        subst q1;subst q2;subst q3
        have hk:=cO (dQ ho)
        have hk2:=cO (dQ ho2)
        have hne:hh≠h2:=fun e=>by subst e;rw[aG] at c4;cases c4
        have hkd:aq (oB s.er.st h2) hh=some _:=kY hne hk
        have hoE:(TO.deep e m (f&&f2) (.dG e2) τ' a':TO S).er s.ln=⟨e,true,m,f&&f2,1,[],some (.deep (ij e e2 (dD τ' a).1 ((dD τ' a).2.set i (List.length l2,List.flatMap (aK S t2) l2))))⟩:=by
         show ap.mk _ _ _ _ _ _ (some (.deep (ij e e2 (dD τ' a').1 (dD τ' a').2)))=_
         rw[q8,q9]
        obtain⟨g1,g2,g3⟩:=Dv (s:=s) (h:=hh) (rm:=[h2]) (o':=.deep e m (f&&f2) (.dG e2) τ' a')
         (s1:={fr:=mq hh s.er.fr,st:=bw (jj hh (oB s.er.st h2)) hh ⟨e,true,m,f&&f2,1,[],some (.deep (ij e e2 (dD τ' a).1 ((dD τ' a).2.set i (List.length l2,List.flatMap (aK S t2) l2))))⟩,df:=AM.eF.go hh s.er.df})
         ho q7 (fun _ _=>rfl) c5 (by simpa using hne) rfl (by rw[hoE,eY (iG hkd)]) (fun x k0 hx1 hx2 h0=>by
          show aq (bw _ _ _) _=_
          rw[eK hx1]
          exact iG (kY (by simpa using hx2) h0)) rfl
        refine .one _ (EF.N3 (P:=P) (W:=W) (t:=t) (x:=x) (y:=y) (n:=List.length l2) (by rw[bf hx];simp[TV.er,eB.sz]) (by rw[bf hy];show some (G.aO h2 (S.sz t2) 0 (s.ln h2))=_;rw[l4 (dQ ho2),←q4]) c4 hk rfl q5 (gS c3) hk2 rfl rfl rfl q4.symm (by rw[q4];exact By S t2)
         (by show(List.flatMap (aK S t2) l2).length=_;rw[eM,q4]) (fun hm'=>by
          have hm':m=true:=hm'
          rw[hm'] at hm
          exact(by simpa using hm:m2=true)) (dw hsz) (hokW _ c1) (hokW _ c2)) g1 g2 g3 q6
       ·cases h
      ·cases h
     ·cases h
    ·cases h
   ·cases h
  ·cases h
 ·cases h
mutual
theorem O6 {h:Nat}:∀g:G,g.b7 h=false→AM.eF h g=g
 | .kp x i off,e=>by
  show(bif Nat.beq x h then _ else _)=_
  rw[show Nat.beq x h=false from e];rfl
 | .ks x i sz n,e=>by
  show(bif Nat.beq x h then _ else _)=_
  rw[show Nat.beq x h=false from e];rfl
 | .agg gs,e=>congrArg G.agg (wc gs e)
 | .bj gs,e=>congrArg G.bj (wc gs e)
 | .aM f gs,e=>congrArg (G.aM f) (wc gs e)
 | .loc _ _,_=>rfl
 | .aO _ _ _ _,_=>rfl
 | .cq _,_=>rfl
 | .dR _,_=>rfl
 | .any,_=>rfl
 | .val _,_=>rfl
 | .sl _ _,_=>rfl
 | .ptr _,_=>rfl
 | .fr _,_=>rfl
theorem wc {h:Nat}:∀gs:List G,G.b7.go h gs=false→AM.eF.go h gs=gs
 | [],_=>rfl
 | x::r,e=>by
  simp only[G.b7.go,bD] at e
  simp only[AM.eF.go,O6 x e.1,wc r e.2]
end
def DB (P:Program) (ok:Nat→Bool) (s:ah S) (d:Nat) (t:TypeId) (n:Nat) (parts:Array (Nat×Operand)){A:Type}(k:ah S→Option A):Option A:=
 none
theorem KH {P:Program}{W:List Nat}{ok:Nat→Bool}(hokW:∀h,ok h=true→W.contains h=true){s:ah S}{d:Nat}{t:TypeId}{n:Nat}{parts:Array (Nat×Operand)}{ty:TypeId}{pos:String}{after:Array Edge}{guard:Option (Nat×Bool)}{A:Type}{k:ah S→Option A}{r:A}
  (hl:aY s) (h:DB P ok s d t n parts k=some r):fx P W s ⟨some d,.buildSlice t n parts,ty,pos,after,guard⟩ k r:=by
 unfold DB at h
 cases h
def DC (P:Program) (ok:Nat→Bool) (s:ah S) (d:Nat) (c:Call){A:Type}(k:ah S→Option A):Option A:=
 none
theorem KI {P:Program}{W:List Nat}{ok:Nat→Bool}(hokW:∀h,ok h=true→W.contains h=true){s:ah S}{d:Nat}{args:Array Operand}{ts:Array TypeId}{ty:TypeId}{pos:String}{after:Array Edge}{guard:Option (Nat×Bool)}{A:Type}{k:ah S→Option A}{r:A}
  (hl:aY s) (hq:DC P ok s d ⟨.builtin .append,args,ts⟩ k=some r):fx P W s ⟨some d,.call ⟨.builtin .append,args,ts⟩,ty,pos,after,guard⟩ k r:=by
 unfold DC at hq
 cases hq
end
end Go.DN
/-
 DN,part Ke:slices that are written no more,slices that are adopted,slices whose end is cut off.
-/
namespace Go.DN
open Go.AM
section
variable {S:eB}
def TV.J1:TV S→List Nat
 | .aO h _=>[h]
 | .sub h _ _ _=>[h]
 | .agg l=>go l
 | .bj l=>go l
 | _=>[]
where go:List (TV S)→List Nat
 | []=>[]
 | x::r=>x.J1++go r
def pM:List Nat→ah S→Option (ah S)
 | [],s=>some s
 | h::r,s=>match aw s.bg h with
  | none=>pM r s
  | some _=>match zD s h with
   | some s'=>pM r s'
   | none=>none
theorem lO:∀{l:List Nat}{s t:ah S},aY s→pM l s=some t→Gh s.er t.er∧aY t∧bz s t
 | [],s,t,hl,h=>by cases h;exact⟨Gh.refl _,hl,bz.refl s⟩
 | x::r,s,t,hl,h=>by
  simp only[pM] at h
  split at h
  ·exact lO hl h
  ·split at h
   ·rename_i s' hs
    obtain⟨a1,a2,a3⟩:=Cp hl hs
    obtain⟨b1,b2,b3⟩:=lO a2 h
    exact⟨a1.trans b1,b2,a3.trans b3⟩
   ·cases h
def J0 (s:ah S):List Operand→List Nat
 | []=>[]
 | x::r=>(match cm s x with | some v=>v.J1 | none=>[])++J0 s r
theorem yF {α β:Type}{f:α→List β}{z:Nat}(hf:∀a,(f a).length=z):∀(l:List α) (n:Nat),List.flatMap f (l.take n)=(List.flatMap f l).take (n*z)
 | [],n=>by simp
 | x::r,0=>by simp
 | x::r,n+1=>by
  simp only[List.take_succ_cons,cn]
  have e1:(n+1)*z-z=n*z:=by rw[Nat.succ_mul];omega
  have e2:(f x).length≤(n+1)*z:=by rw[hf x,Nat.succ_mul];omega
  rw[yF hf r n,List.take_append,hf x,e1,b6 (l:=f x) e2]
theorem Gh.vT {s:St}(hh j hd:Nat) (e:TypeId) (sz:Nat){k:ap}(hk:aq s.st hh=some k) (hp:k.pure=false) (hj:k.cells[j]?=some (.val (.slice none 0 0))) (hf:fresh s hd=true) (hlp:k.lp=none):
  Gh s {fr:=s.fr,st:=bw ((hd,⟨e,true,true,true,sz,[],none⟩)::s.st) hh {k with cells:=k.cells.set j (.aO hd sz 0 0)},df:=s.df}:=fun N cx μ a w h=>by
 have h1:=h.vz hd ⟨e,true,true,true,sz,[],none⟩ hf rfl rfl
 have hne:hh≠hd:=fun e=>by
  subst e
  obtain⟨h2,_⟩:=eX hf
  rw[hk] at h2;cases h2
 have hk2:aq ((hd,(⟨e,true,true,true,sz,[],none⟩:ap))::s.st) hh=some k:=by rw[aD _ _ hne];exact hk
 refine⟨_,h1.vm (s:={fr:=s.fr,st:=(hd,⟨e,true,true,true,sz,[],none⟩)::s.st,df:=s.df}) hk2 rfl rfl rfl (by simp) hlp hlp fun i g' hg'=>?_,Gh.same fun x k1 b m hx hm=>?_⟩
 ·simp only[dI] at hg'
  by_cases e:j=i
  ·subst e
   rw[if_pos rfl] at hg'
   split at hg'
   ·cases hg'
    refine⟨_,hj,fun v hv=>?_⟩
    unfold cv at hv⊢
    simp only[hp] at hv⊢
    cases hv with
    | aF hv=>cases hv;exact .eL hd sz (bu _ _ _)
   ·cases hg'
  ·rw[if_neg e] at hg'
   refine⟨g',hg',fun v hv=>?_⟩
   unfold cv at hv⊢
   exact hv
 ·by_cases e1:x=hd
  ·subst e1;rw[bu] at hm;cases hm
  ·rw[aR e1] at hm
   rcases cG hk2 hx with ⟨e2,_⟩ | ⟨e2,h3⟩
   ·subst e2;exact⟨k,hk,hm⟩
   ·rw[aD _ _ e1] at h3;exact⟨k1,h3,hm⟩
theorem MT {s:ah S}{h j hd:Nat}{e e':TypeId}{m:Bool}{cs:List (TV S)}{τ:Ty}(hl:aY s) (ho:aw s.st h=some (.box e' m cs)) (hj:cs[j]?=some (.val (.slice none 0 0))) (hf:s.free hd=true):
  Gh s.er ((s.add hd (.aT e true true τ [])).set h (.box e' m (cs.set j (.aO hd τ)))).er∧aY ((s.add hd (.aT e true true τ [])).set h (.box e' m (cs.set j (.aO hd τ)))):=by
 obtain⟨e1,hag⟩:=oo hf (.aT e true true τ ([]:List (S.D τ))) rfl
 obtain⟨f1,f2,f3,f4,f5⟩:=free_spec hf
 have hne:h≠hd:=fun e=>by subst e;rw[dQ ho] at f1;cases f1
 have hne':Nat.beq hd h=false:=by
  cases hb:Nat.beq hd h with
  | false=>rfl
  | true=>exact absurd (aa hb).symm hne
 have ho2:aw (s.add hd (.aT e true true τ [])).st h=some (.box e' m cs):=by
  show aw ((hd,_)::s.st) h=_
  simp only[aw,hne',cond_false];exact ho
 obtain⟨g1,_⟩:=kZ (o':=.box e' m (cs.set j (.aO hd τ))) ho2 rfl
 refine⟨?_,(hl.add (.aT e true true τ []) hf).set ho2 _⟩
 rw[g1,e1]
 have hcs:TV.has.go hd cs=false:=by
  have:=oS (dQ ho) f3
  exact this
 have e3:(TO.box e' m (cs.set j (.aO hd τ)):TO S).er (s.add hd (.aT e true true τ [])).ln={(TO.box e' m cs:TO S).er s.ln with cells:=((TO.box e' m cs:TO S).er s.ln).cells.set j (.aO hd (S.sz τ) 0 0)}:=by
  have e4:TV.er.go (s.add hd (.aT e true true τ [])).ln (cs.set j (.aO hd τ))=(TV.er.go s.ln cs).set j (.aO hd (S.sz τ) 0 0):=by
   rw[cR,kz,←cR,←oG hag cs hcs]
   congr 1
   show G.aO _ _ _ ((s.add hd _).ln hd)=_
   rw[show(s.add hd (.aT e true true τ [])).ln hd=_ from tl _ _];rfl
  show ap.mk _ _ _ _ _ _ _=ap.mk _ _ _ _ _ _ _
  rw[e4];rfl
 rw[e3]
 exact Gh.vT (s:=s.er) h j hd e (S.sz τ) (fJ (dQ ho)) rfl (by show(TV.er.go s.ln cs)[j]?=_;rw[cR,ay,hj];rfl) (gk hf) rfl
def DF (h:Nat):List (Nat×TO S)→List (Nat×TO S)
 | []=>[]
 | (k,o)::r=>bif Nat.beq k h then DF h r else(k,o)::DF h r
theorem w8 {h x:Nat}(hx:x≠h):∀{st:List (Nat×TO S)},aw (DF h st) x=aw st x
 | []=>rfl
 | (k,o)::r=>by
  simp only[DF,aw]
  cases hb:Nat.beq k h with
  | true=>
   have:=aa hb
   subst this
   have h2:Nat.beq k x=false:=by
    cases h3:Nat.beq k x with
    | false=>rfl
    | true=>exact absurd (aa h3).symm hx
   rw[h2]
   exact w8 hx
  | false=>
   simp only[cond_false,aw]
   cases Nat.beq k x with
   | true=>rfl
   | false=>exact w8 hx
def ah.pS (s:ah S) (h:Nat):ah S:={s with st:=DF h s.st,last:=yd h s.last}
theorem N9 {s:ah S}{h:Nat}(hl:aY s) (hf:(s.pS h).free h=true):Gh s.er (s.pS h).er∧aY (s.pS h)∧bz s (s.pS h):=by
 obtain⟨f1,f2,f3,f4,_⟩:=free_spec hf
 have hst:∀x,x≠h→aw (s.pS h).bg x=aw s.bg x:=by
  intro x hx
  show aw (DF h s.st++s.bL) x=aw (s.st++s.bL) x
  rw[db,db,w8 hx]
 have hag:jv s.ln (s.pS h).ln h:=by
  intro x hx
  show bZ s.bg x=bZ (s.pS h).bg x
  unfold bZ
  rw[hst x hx]
 have hone:∀o:TO S,o.has h=false→oq s.er.st (s.pS h).er.st (o.er s.ln) (o.er (s.pS h).ln):=by
  intro o ho
  rw[TO.qG hag o ho]
  exact oq.refl _ _ _
 refine⟨Gh.qV (fun d v' hv'=>⟨v',hv',?_⟩) (fun x o' ho'=>?_) (oG hag s.df f4),?_,⟨rfl,rfl,rfl⟩⟩
 ·rw[qG hag v' (na hv' f2)]
  exact CV.refl _ _ _
 ·have hx:x≠h:=fun e=>by subst e;rw[f1] at ho';cases ho'
  exact⟨o',by rw[←hst x hx];exact ho',hone o' (oS ho' f3)⟩
 ·intro d hh x hm
  obtain⟨h1,h2⟩:=sL hm
  obtain⟨i,bM,m,f',τ',l',a,e1,e2,e3⟩:=hl d hh x h1
  exact⟨i,bM,m,f',τ',l',a,e1,(hst hh h2).trans e2,e3⟩
def rc (s:ah S) (h:Nat):ah S:=match s.free h with
 | true=>s
 | false=>match (s.pS h).free h with
  | true=>s.pS h
  | false=>s
theorem Hq {s:ah S}(h:Nat) (hl:aY s):Gh s.er (rc s h).er∧aY (rc s h)∧bz s (rc s h):=by
 unfold rc
 split
 ·exact⟨Gh.refl _,hl,bz.refl s⟩
 ·split
  ·rename_i hf
   exact N9 hl hf
  ·exact⟨Gh.refl _,hl,bz.refl s⟩
theorem Rel.shrink {N:Nat}{cx:Cx}{s:St}{μ:Mu}{a:Act}{w:World}(hr:Rel N cx μ s a w){h d n c:Nat}{k:ap}(hk:aq s.st h=some k) (hp:k.pure=true) (hlp:k.lp=none) (hd:get s.fr d=some (.aO h k.sz 0 n)):
  Rel N cx μ {fr:=(d,.aO h k.sz 0 n)::mX h s.fr,st:=(h,{k with cells:=k.cells.take c})::gn h s.st,df:=s.df} a w:=by
 have key:∀x k1,aq ((h,{k with cells:=k.cells.take c})::gn h s.st) x=some k1→∃k0,aq s.st x=some k0:=by
  intro x k1 h1
  by_cases e:x=h
  ·subst e;exact⟨k,hk⟩
  ·rw[aD _ _ e] at h1
   obtain⟨k0,h2,_⟩:=dx h1
   exact⟨k0,h2⟩
 have hO:∀b,¬cx.O s.st μ b→¬cx.O ((h,{k with cells:=k.cells.take c})::gn h s.st) μ b:=by
  rintro b hn (ho | ⟨x,k1,c1,m,h1,h2,hi⟩)
  ·exact hn (.inl ho)
  ·obtain⟨k0,h3⟩:=key x k1 h1
   exact hn (.inr ⟨x,k0,c1,m,h3,h2,hi⟩)
 refine {st:={c8:=?_,cz:=?_,bR:=?_,dZ:=?_,dY:=hr.st.dY,hb:=hr.st.hb,os:=hr.st.os,tape:=hr.st.tape,output:=hr.st.output,cY:=hr.st.cY},nd:=hr.nd.mono (Kept.refl _ _) (fun b _=>hO b),sz:=hr.sz,fr:=?_}
 ·intro x k1 h1
  by_cases e:x=h
  ·subst e
   rw[dm] at h1
   cases h1
   have h3:=hr.st.c8 x k hk
   cases hm:μ x with
   | none=>rw[hm] at h3;exact .nil (by simp[h3.1]) hlp
   | some bm=>
    obtain⟨b,m⟩:=bm
    rw[hm] at h3
    obtain⟨cs,q1,q2,q3,q4,q5,q6⟩:=h3.cells hlp
    refine .mk hlp (h3.kf hlp) ⟨cs,q1,q2,by simp only[aU];omega,q4,q5,fun j g hg=>?_⟩
    have hg':k.cells[j]?=some g:=by
     have hg:(k.cells.take c)[j]?=some g:=hg
     rw[a9] at hg
     split at hg
     ·exact hg
     ·cases hg
    obtain⟨v,hv,hrv⟩:=q6 j g hg'
    refine⟨v,hv,?_⟩
    have:=hrv.mono (O':=cx.O ((x,{k with cells:=k.cells.take c})::gn x s.st) μ) (Kept.refl _ _) (fun b _=>hO b)
    unfold cv at this⊢
    exact this
  ·rw[aD _ _ e] at h1
   obtain⟨k0,h2,rfl⟩:=dx h1
   exact((hr.st.c8 x k0 h2).mono (fun _ _ _ _ _=>rfl) (Kept.refl _ _) (fun b _=>hO b)).kill h fun _ _=>rfl
 ·intro x x' k1 k2 y b m b2 m2 h1 h2
  obtain⟨k0,h5⟩:=key x k1 h1
  obtain⟨k0',h5'⟩:=key x' k2 h2
  exact hr.st.cz x x' k0 k0' y b m b2 m2 h5 h5'
 ·intro x k1 b m y h1 h2 hi
  by_cases e:x=h
  ·subst e
   rw[dm] at h1
   cases h1
   exact hr.st.bR x k b m y hk h2 hi
  ·rw[aD _ _ e] at h1
   obtain⟨k0,h5,rfl⟩:=dx h1
   obtain⟨a1,a2,a3,a4⟩:=hr.st.bR x k0 b m y h5 h2 hi
   exact⟨a1,a2,a3,fun hm=>a4 (by cases hp:k0.pure <;> simp only[hp] at hm <;> exact hm)⟩
 ·intro x k1 h1 h2
  obtain⟨k0,h5⟩:=key x k1 h1
  exact hr.st.dZ x k0 h5 h2
 ·intro t g hg
  rw[gC] at hg
  cases hb:Nat.beq d t with
  | true=>
   rw[hb] at hg
   cases hg
   have:=aa hb
   subst this
   obtain⟨v,hv,hrv⟩:=hr.fr d _ hd
   exact⟨v,hv,hrv.mono (Kept.refl _ _) (fun b _=>hO b) (az _)⟩
  | false=>
   rw[hb] at hg
   obtain⟨g0,h1,rfl⟩:=wU hg
   obtain⟨v,hv,hrv⟩:=hr.fr t g0 h1
   exact⟨v,hv,pI (hrv.mono (Kept.refl _ _) (fun b _=>hO b) (az _)) fun k hk=>rfl⟩
def xR (s:ah S) (x:Operand){A:Type}(k:ah S→Option A):Option A:=
 match x with
 | .tmp t=>match bc s.bW t with
  | some (.sub h τ 0 n)=>match aw s.st h with
   | some (.aT e m f τ' l)=>match decEq τ' τ with
    | isTrue _=>match !(gl h s.lo)&&(!(eH h s.bL)&&!(TV.has.go h s.df)) with
     | true=>(bq (n≤l.length)).bind fun _=>k ((s.renew h (.aT e m f τ' (l.take n))).put t (.aO h τ'))
     | false=>none
    | isFalse _=>none
   | _=>none
  | _=>k s
 | _=>k s
theorem xQ {s:ah S}{x:Operand}{A:Type}{k:ah S→Option A}{r:A}(hl:aY s) (h:xR s x k=some r):∃t,Gh s.er t.er∧aY t∧bz s t∧k t=some r:=by
 unfold xR at h
 split at h
 ·rename_i t
  split at h
  ·rename_i hh τ n hx
   split at h
   ·rename_i e m f τ' l ho
    split at h
    ·rename_i e1 _
     subst e1
     split at h
     ·rename_i hc
      simp only[ai,a6] at hc
      obtain⟨hlo,hls,hdf⟩:=hc
      obtain⟨_,hck,hk⟩:=bind_some h
      have hn:n≤l.length:=cj hck
      refine⟨_,?_,(hl.renew hh (.aT e m f τ' (l.take n)) hlo hls).put t (.aO hh τ'),⟨rfl,rfl,rfl⟩,hk⟩
      obtain⟨e1,_,e3⟩:=Gd (.aT e m f τ' (l.take n)) rfl hdf hlo hls
      rw[fB,e1]
      have e4:(TV.aO hh τ':TV S).er (s.renew hh (.aT e m f τ' (l.take n))).ln=.aO hh (S.sz τ') 0 n:=by
       show G.aO _ _ _ ((s.renew hh _).ln hh)=_
       rw[e3]
       show G.aO _ _ _ (l.take n).length=_
       rw[aU,dt hn]
      rw[e4]
      have e5:(TO.aT e m f τ' (l.take n):TO S).er s.ln={(TO.aT e m f τ' l:TO S).er s.ln with cells:=((TO.aT e m f τ' l:TO S).er s.ln).cells.take (n*S.sz τ')}:=by
       show ap.mk _ _ _ _ _ _ _=ap.mk _ _ _ _ _ _ _
       have:List.flatMap (aK S τ') (l.take n)=(List.flatMap (aK S τ') l).take (n*S.sz τ'):=yF (fun a=>qH S τ' a) l n
       rw[this];rfl
      rw[e5]
      have e6:AM.get (fZ s.ln s.bW) t=some (G.aO hh (S.sz τ') 0 n):=by
       rw[eZ hx]
       show some (G.aO _ _ (0*S.sz τ') _)=_
       rw[ep]
      intro N cx μ a w hr
      exact⟨μ,Rel.shrink hr (fJ (dQ ho)) rfl rfl e6,Gh.same fun x k1 b m' h1 h2=>by
       by_cases e:x=hh
       ·subst e;exact⟨_,fJ (dQ ho),h2⟩
       ·have h1:aq ((hh,_)::gn hh s.er.st) x=some k1:=h1
        rw[aD _ _ e] at h1
        obtain⟨k0,h3,_⟩:=dx h1
        exact⟨k0,h3,h2⟩⟩
     ·cases h
    ·cases h
   ·cases h
  ·exact⟨s,Gh.refl _,hl,bz.refl s,h⟩
 ·exact⟨s,Gh.refl _,hl,bz.refl s,h⟩
end
end Go.DN
/-
 DN,part Kc:copy.
-/
namespace Go.DN
open Go.AM
def iB {α:Type}(l m:List α) (o n:Nat):List α:=l.take o++m.take (Nat.min m.length n)++l.drop (o+Nat.min m.length n)
theorem pV {α:Type}{l m:List α}{o n:Nat}(h:o+n≤l.length):(iB l m o n).length=l.length:=by
 have h1:Nat.min m.length n≤m.length:=Nat.min_le_left _ _
 have h2:Nat.min m.length n≤n:=Nat.min_le_right _ _
 simp only[iB,aj,aU,cp]
 omega
theorem xe {α:Type}{l m:List α}{o n:Nat}(h:Nat.min m.length n=0):iB l m o n=l:=by
 unfold iB
 rw[h,List.take_zero,b9,di,List.take_append_drop]
section
variable {S:eB}
def Fg (ok:Nat→Bool) (s:ah S) (d h:Nat) (τ:Ty) (o n:Nat) (vy:TV S){A:Type}(k:ah S→Option A):Option A:=
 match ok h with
 | true=>match aw s.st h with
  | some (.aT e m f τ' l)=>match decEq τ' τ with
   | isTrue _=>match decEq (S.sz τ') 1 with
    | isTrue _=>match JI s h τ' vy with
     | some (fy,ml)=>JJ s vy ((bq (o+n≤List.length l)).bind fun _=>
       k ((s.set h (.aT e m (f&&(fy||τ'.fV)) τ' (iB l ml o n))).put d (.af true (.int .i64) (Nat.min (List.length ml) n:Nat))))
     | none=>none
    | isFalse _=>none
   | isFalse _=>none
  | _=>none
 | false=>none
def KN (P:Program) (ok:Nat→Bool) (s:ah S) (d:Nat) (c:Call){A:Type}(k:ah S→Option A):Option A:=
 match c.args.toList,c.argTypes.toList with
 | [x,y],[t,t']=>match P.underlying t with
  | some (.slice e)=>match decEq ((P.info? e).map (·.size)) (some 1) with
   | isTrue _=>match cm s y with
    | some vy=>match cm s x with
     | some (.aO h τ)=>match aw s.bg h with
      | some (.aT _ _ _ _ l)=>Fg ok s d h τ 0 (List.length l) vy k
      | _=>none
     | some (.sub h τ o n)=>Fg ok s d h τ o n vy k
     | _=>none
    | none=>none
   | isFalse _=>none
  | _=>none
 | _,_=>none
section
variable {P:Program}{W:List Nat}{s:ah S}{ty:TypeId}{pos:String}{after:Array Edge}{guard:Option (Nat×Bool)}{A:Type}{k:ah S→Option A}{r:A}
theorem ui {st:List (Nat×ap)}{h:Nat}{b:ap}(hb:aq st h=some b):bw st h b=st:=by
 induction st with
 | nil=>cases hb
 | cons x r ih=>
  obtain⟨y,g⟩:=x
  simp only[aq] at hb
  simp only[bw]
  cases hy:Nat.beq y h with
  | true=>rw[hy] at hb;cases hb;rfl
  | false=>rw[hy] at hb;rw[cond_false,ih hb]
theorem Lm {st:List (Nat×ap)}{h:Nat}{a b:ap}:bw (bw st h a) h b=bw st h b:=by
 induction st with
 | nil=>rfl
 | cons x r ih=>
  obtain⟨y,g⟩:=x
  simp only[bw]
  cases hy:Nat.beq y h with
  | true=>simp only[cond_true,bw,hy]
  | false=>simp only[cond_false,bw,hy,ih]
theorem HN {ok:Nat→Bool}(hokW:∀h,ok h=true→W.contains h=true){d h o n:Nat}{τ:Ty}{t t' e0:TypeId}{x y:Operand}{vy:TV S}(hl:aY s) (hx:ev s.er x=some (.aO h (S.sz τ) (o*S.sz τ) n)) (hy:cm s y=some vy)
  (ht:P.underlying t=some (.slice e0)) (hi:(P.info? e0).map (·.size)=some 1) (hk:Fg ok s d h τ o n vy k=some r):
  fx P W s ⟨some d,.call ⟨.builtin .copy,#[x,y],#[t,t']⟩,ty,pos,after,guard⟩ k r:=by
 unfold Fg at hk
 split at hk
 ·rename_i hW
  split at hk
  ·rename_i e m f τ' l ho
   split at hk
   ·rename_i e1 _
    subst e1
    split at hk
    ·rename_i hsz _
     split at hk
     ·rename_i fy ml hsr
      obtain⟨g1,g2,hk⟩:=Ix hsr hk
      obtain⟨u,hck,hk⟩:=bind_some hk
      have c1:=cj hck
      have ho':=cO (dQ ho)
      have hx':ev s.er x=some (.aO h 1 o n):=by rw[hx,hsz,dX]
      have hlen:(List.flatMap (aK S τ') l).length=l.length:=by rw[eM,hsz,dX]
      have hlenm:(List.flatMap (aK S τ') ml).length=ml.length:=by rw[eM,hsz,dX]
      have tk:∀(l:List (S.D τ')) (i:Nat),(List.flatMap (aK S τ') l).take i=List.flatMap (aK S τ') (l.take i):=fun l i=>by
       have:=nI τ' l i;rwa[hsz,dX] at this
      have dp:∀(l:List (S.D τ')) (i:Nat),(List.flatMap (aK S τ') l).drop i=List.flatMap (aK S τ') (l.drop i):=fun l i=>by
       have:=nJ τ' l i;rwa[hsz,dX] at this
      have hc:(List.flatMap (aK S τ') l).take o++(List.flatMap (aK S τ') ml).take (Nat.min ml.length n)++(List.flatMap (aK S τ') l).drop (o+Nat.min ml.length n)=List.flatMap (aK S τ') (iB l ml o n):=by
       rw[tk,tk,dp,←iA,←iA];rfl
      have hln:(TO.aT e m (f&&(fy||τ'.fV)) τ' (iB l ml o n):TO S).len=(TO.aT e m f τ' l:TO S).len:=pV c1
      obtain⟨e2,e3⟩:=kZ (o':=.aT e m (f&&(fy||τ'.fV)) τ' (iB l ml o n)) ho hln
      refine⟨_,EF.copy (f:=fy) hx' (bf hy) ho' rfl (by show o+n≤(List.flatMap (aK S τ') l).length;rw[hlen];exact c1) (by rw[←hsz];exact g1) (by rw[hlenm,dX]) (fun g hg=>by
       obtain⟨a,ha,hg⟩:=g7.1 hg
       exact o8 S τ' a g hg) ht hi (hokW h hW) rfl,fun s' hs'=>⟨_,?_,(hl.set ho _).put _ _,⟨rfl,rfl,rfl⟩,hk⟩⟩
      rcases hs' with hs' | ⟨h0,hs'⟩
      ·subst hs'
       rw[fB,e2]
       show Gh ⟨(d,.val (.int .i64 ((Nat.min ml.length n:Nat):Int)))::s.er.fr,bw s.er.st h ⟨e,true,m,f&&fy,S.sz τ',(List.flatMap (aK S τ') l).take o++(List.flatMap (aK S τ') ml).take (Nat.min ml.length n)++(List.flatMap (aK S τ') l).drop (o+Nat.min ml.length n),none⟩,s.er.df⟩ ⟨(d,.val (.int .i64 ((Nat.min ml.length n:Nat):Int)))::s.er.fr,bw s.er.st h ⟨e,true,m,f&&(fy||τ'.fV),S.sz τ',List.flatMap (aK S τ') (iB l ml o n),none⟩,s.er.df⟩
       rw[hc]
       cases hs:τ'.fV with
       | false=>rw[Bool.or_false];exact Gh.refl _
       | true=>
        cases f with
        | false=>exact Gh.refl _
        | true=>
         rw[Bool.or_true,Bool.true_and,Bool.true_and]
         have hk1:aq (bw s.er.st h (⟨e,true,m,fy,S.sz τ',List.flatMap (aK S τ') (iB l ml o n),none⟩:ap)) h=some ⟨e,true,m,fy,S.sz τ',List.flatMap (aK S τ') (iB l ml o n),none⟩:=eY ho'
         have:=Gh.fV (S:=S) (s:=⟨(d,.val (.int .i64 ((Nat.min ml.length n:Nat):Int)))::s.er.fr,bw s.er.st h (⟨e,true,m,fy,S.sz τ',List.flatMap (aK S τ') (iB l ml o n),none⟩:ap),s.er.df⟩) hs hk1 rfl rfl rfl
         rw[Lm] at this
         exact this
      ·subst hs'
       rw[fB,e2]
       have hval:(TV.af true (.int .i64) ((Nat.min ml.length n:Nat):Int):TV S).er (s.set h (.aT e m (f&&(fy||τ'.fV)) τ' (iB l ml o n))).ln=.val (.int .i64 0):=by rw[h0];rfl
       rw[hval]
       refine Gh.gen (s:=s.er.put d (.val (.int .i64 0))) (fun x g' hg=>⟨g',hg,CV.refl _ _ _⟩) (fun x k' hk'=>?_) rfl
       rcases cG ho' hk' with ⟨rfl,rfl⟩ | ⟨_,hk'⟩
       ·refine⟨_,ho',rfl,id,rfl,rfl,rfl,?_,.inl ⟨rfl,?_,fun hf=>by simp[TO.er] at hf;exact .inl hf.1⟩⟩
        ·show(List.flatMap (aK S τ') (iB l ml o n)).length=(List.flatMap (aK S τ') l).length
         rw[xe h0]
        ·show List.flatMap (aK S τ') (iB l ml o n)=List.flatMap (aK S τ') l
         rw[xe h0]
       ·exact⟨k',hk',oq.refl _ _ _⟩
     ·cases hk
    ·cases hk
   ·cases hk
  ·cases hk
 ·cases hk
theorem Od {ok:Nat→Bool}(hokW:∀h,ok h=true→W.contains h=true){d:Nat}{args:Array Operand}{ts:Array TypeId}(hl:aY s) (h:KN P ok s d ⟨.builtin .copy,args,ts⟩ k=some r):
  fx P W s ⟨some d,.call ⟨.builtin .copy,args,ts⟩,ty,pos,after,guard⟩ k r:=by
 unfold KN at h
 dsimp only at h
 split at h
 ·rename_i h1 h2
  have h1:=l8 h1
  have h2:=l8 h2
  subst h1;subst h2
  split at h
  ·rename_i hu
   split at h
   ·rename_i hi _
    split at h
    ·rename_i hy
     split at h
     ·rename_i hh τ hx
      split at h
      ·rename_i ho
       refine HN hokW hl ?_ hy hu hi h
       rw[bf hx,ep]
       show some (G.aO _ _ _ (s.ln hh))=_
       rw[l4 ho]
      ·cases h
     ·rename_i hx
      exact HN hokW hl (bf hx) hy hu hi h
     ·cases h
    ·cases h
   ·cases h
  ·cases h
 ·cases h
end
end
end Go.DN
/-
 DN,part Kf:append within an object,clear.
-/
namespace Go.AM
theorem K3 {α:Type}[aJ α]{x:α}{z:Array Value}(hzs:z.size=aJ.sz α) (he:z.toList.map ix=aJ.cells x) (n:Nat):(Builtin.zeroCells z n).toList.map ix=cX (List.replicate n x):=by
 have hpos:0<aJ.sz α:=aJ.pos
 apply kA
 intro j
 unfold cX
 rw[og aJ.cells (aJ.sz α) hpos (List.replicate n x) (fun a _=>aJ.len a) j,fQ]
 by_cases hj:j/aJ.sz α<n
 ·rw[if_pos hj,ab,←he]
  have hjn:j<n*aJ.sz α:=(Nat.div_lt_iff_lt_mul hpos).1 hj
  have hlt:j%aJ.sz α<z.size:=by rw[hzs];exact mG _ hpos
  have e1:z[j%aJ.sz α]! =z[j%aJ.sz α]:=by simp[hlt]
  have e2:z[j%aJ.sz α]?=some z[j%aJ.sz α]:=kn hlt
  simp only[Builtin.zeroCells,hzs,eg,Array.toList_range,ay,jC hjn,bG,bn,e1,e2]
 ·rw[if_neg hj,Option.bind_none]
  have hjn:¬j<n*aJ.sz α:=fun h=>hj ((Nat.div_lt_iff_lt_mul hpos).2 h)
  simp[Builtin.zeroCells,hzs,hjn]
end Go.AM
namespace Go.DN
open Go.AM
section
variable {S:eB}
def QV (s:ah S):List Operand→Bool
 | [x,y]=>match cm s x with
  | some (.sub h _ _ _)=>match cm s y with
   | some (.sub h2 _ _ _)=>Nat.beq h2 h
   | _=>false
  | _=>false
 | _=>false
def HZ (P:Program) (ok:Nat→Bool) (s:ah S) (d:Nat) (c:Call){A:Type}(k:ah S→Option A):Option A:=
 match c.args.toList,c.argTypes.toList with
 | [x,y],[t,t']=>match decEq t t' with
  | isFalse _=>none
  | isTrue _=>match P.underlying t with
   | some (.slice e0)=>match cm s x with
    | some (.sub h τ o0 n)=>match cm s y with
     | some (.sub h2 τ2 o m)=>match decEq h2 h with
      | isFalse _=>none
      | isTrue _=>match ok h with
       | false=>none
       | true=>match aw s.st h with
        | some (.aT e mi f τ' l)=>match decEq τ' τ,decEq e e0,decEq τ' τ2 with
         | isTrue _,isTrue _,isTrue _=>match decEq ((P.info? e0).map (·.size)) (some (S.sz τ')) with
          | isTrue _=>(bq (o0=0∧n+m≤List.length l∧o+m≤List.length l)).bind fun _=>
           k ((s.set h (.aT e mi f τ' (iB l ((List.drop o l).take m) n m))).put d (.sub h τ 0 (n+m)))
          | isFalse _=>none
         | _,_,_=>none
        | _=>none
     | _=>none
    | _=>none
   | _=>none
 | _,_=>none
def HP (P:Program) (ok:Nat→Bool) (s:ah S) (c:Call){A:Type}(k:ah S→Option A):Option A:=
 match c.args.toList,c.argTypes.toList with
 | [x],[t]=>match P.underlying t with
  | some (.slice e0)=>match cm s x with
   | some (.sub h τ o n)=>match ok h with
    | false=>none
    | true=>match aw s.st h with
     | some (.aT e mi f τ' l)=>match decEq τ' τ with
      | isTrue _=>match P.info? e0 with
       | some i=>match i.zero with
        | some z=>match EX τ' z with
         | some a=>(bq (o+n≤List.length l)).bind fun _=>k (s.set h (.aT e mi f τ' (iB l (List.replicate n a) o n)))
         | none=>none
        | none=>none
       | none=>none
      | isFalse _=>none
     | _=>none
   | _=>none
  | _=>none
 | _,_=>none
section
variable {P:Program}{W:List Nat}{s:ah S}{ty:TypeId}{pos:String}{after:Array Edge}{guard:Option (Nat×Bool)}{A:Type}{k:ah S→Option A}{r:A}
theorem MQ {ok:Nat→Bool}(hokW:∀h,ok h=true→W.contains h=true){d:Nat}{args:Array Operand}{ts:Array TypeId}(hl:aY s) (h:HZ P ok s d ⟨.builtin .append,args,ts⟩ k=some r):
  fx P W s ⟨some d,.call ⟨.builtin .append,args,ts⟩,ty,pos,after,guard⟩ k r:=by
 unfold HZ at h
 dsimp only at h
 split at h
 ·rename_i x y t t' h1 h2
  have h1:=l8 h1
  have h2:=l8 h2
  subst h1;subst h2
  split at h
  ·cases h
  ·rename_i e1 _
   subst e1
   split at h
   ·rename_i e0 hu
    split at h
    ·rename_i hh τ o0 n hx
     split at h
     ·rename_i h2 τ2 o m hy
      split at h
      ·cases h
      ·rename_i e1 _
       subst e1
       split at h
       ·cases h
       ·rename_i hW
        split at h
        ·rename_i e mi f τ' l ho
         split at h
         ·rename_i e1 e2 e3 _ _ _
          subst e1;subst e2;subst e3
          split at h
          ·rename_i hi _
           obtain⟨u,hck,hkk⟩:=bind_some h
           obtain⟨c0,c1,c2⟩:=cj hck
           subst c0
           have ho':=cO (dQ ho)
           have hs0:0<S.sz τ':=@aJ.pos _ (jA S τ')
           have hx':ev s.er x=some (.aO h2 (S.sz τ') 0 n):=by have:=bf hx;rw[this];show some (G.aO _ _ (0*_) _)=_;rw[ep]
           have hlm:((l.drop o).take m).length=m:=by rw[aU,cp];omega
           have hmin:Nat.min ((l.drop o).take m).length m=m:=by rw[hlm];exact Nat.min_self m
           have hcut:((List.flatMap (aK S τ') l).drop (o*S.sz τ')).take (m*S.sz τ')=List.flatMap (aK S τ') ((l.drop o).take m):=by rw[nJ,nI]
           have hc:(List.flatMap (aK S τ') l).take (n*S.sz τ')++List.flatMap (aK S τ') ((l.drop o).take m)++(List.flatMap (aK S τ') l).drop (n*S.sz τ'+(List.flatMap (aK S τ') ((l.drop o).take m)).length)=List.flatMap (aK S τ') (iB l ((l.drop o).take m) n m):=by
            rw[eM,hlm,←dA,nI,nJ,←iA,←iA]
            unfold iB
            rw[hmin]
            congr 3
            exact(b6 (by omega)).symm
           have hln:(TO.aT e mi f τ' (iB l ((l.drop o).take m) n m):TO S).len=(TO.aT e mi f τ' l:TO S).len:=pV c1
           obtain⟨e2,e3⟩:=kZ (o':=.aT e mi f τ' (iB l ((l.drop o).take m) n m)) ho hln
           have hgs:oF s.er.st (S.sz τ') (.aO h2 (S.sz τ') (o*S.sz τ') m)=some (List.flatMap (aK S τ') ((l.drop o).take m),m,f):=by
            simp only[oF,ho']
            show some (_,m,f)=_
            exact congrArg (fun q=>some (q,m,f)) hcut
           refine⟨_,EF.Oy (f:=f) (newsG:=List.flatMap (aK S τ') ((l.drop o).take m)) (m:=m) (gy:=.aO h2 (S.sz τ') (o*S.sz τ') m) hx' (bf hy) ho' rfl rfl (by show _≤(List.flatMap (aK S τ') l).length;rw[eM];exact b5 _ c1) hs0 hgs (by rw[eM,hlm]) (fun g hg=>by
            obtain⟨a,ha,hg⟩:=g7.1 hg
            exact o8 S τ' a g hg) hu hi (hokW h2 hW) rfl,fun s' hs'=>⟨_,?_,(hl.set ho _).put _ _,⟨rfl,rfl,rfl⟩,hkk⟩⟩
           have hval:∀q,(TV.sub h2 τ' 0 q:TV S).er (s.set h2 (.aT e mi f τ' (iB l ((l.drop o).take m) n m))).ln=.aO h2 (S.sz τ') 0 q:=fun q=>by show G.aO _ _ (0*_) _=_;rw[ep]
           rcases hs' with hs' | ⟨h0,hs'⟩
           ·subst hs'
            rw[fB,e2,hval]
            show Gh ⟨(d,.aO h2 (S.sz τ') 0 (n+m))::s.er.fr,bw s.er.st h2 ⟨e,true,mi,f&&f,S.sz τ',(List.flatMap (aK S τ') l).take (n*S.sz τ')++List.flatMap (aK S τ') ((l.drop o).take m)++(List.flatMap (aK S τ') l).drop (n*S.sz τ'+(List.flatMap (aK S τ') ((l.drop o).take m)).length),none⟩,s.er.df⟩ ⟨(d,.aO h2 (S.sz τ') 0 (n+m))::s.er.fr,bw s.er.st h2 ⟨e,true,mi,f,S.sz τ',List.flatMap (aK S τ') (iB l ((l.drop o).take m) n m),none⟩,s.er.df⟩
            rw[hc,fH]
            exact Gh.refl _
           ·subst hs'
            subst h0
            rw[fB,e2,hval,xe hmin]
            have:=ui ho'
            show Gh ⟨(d,.aO h2 (S.sz τ') 0 n)::s.er.fr,s.er.st,s.er.df⟩ ⟨(d,.aO h2 (S.sz τ') 0 n)::s.er.fr,bw s.er.st h2 (TO.er s.ln (.aT e mi f τ' l)),s.er.df⟩
            rw[ui ho']
            exact Gh.refl _
          ·cases h
         ·cases h
        ·cases h
     ·cases h
    ·cases h
   ·cases h
 ·cases h
theorem MI {ok:Nat→Bool}(hokW:∀h,ok h=true→W.contains h=true){args:Array Operand}{ts:Array TypeId}(hl:aY s) (h:HP P ok s ⟨.builtin .clear,args,ts⟩ k=some r):
  fx P W s ⟨none,.call ⟨.builtin .clear,args,ts⟩,ty,pos,after,guard⟩ k r:=by
 unfold HP at h
 dsimp only at h
 split at h
 ·rename_i x t h1 h2
  have h1:=zg h1
  have h2:=zg h2
  subst h1;subst h2
  split at h
  ·rename_i e0 hu
   split at h
   ·rename_i hh τ o n hx
    split at h
    ·cases h
    ·rename_i hW
     split at h
     ·rename_i e mi f τ' l ho
      split at h
      ·rename_i e1 _
       subst e1
       split at h
       ·rename_i i hi
        split at h
        ·rename_i z hz
         split at h
         ·rename_i a ha
          obtain⟨u,hck,h⟩:=bind_some h
          have c1:=cj hck
          obtain⟨z1,z2⟩:=Fl ha
          have ho':=cO (dQ ho)
          have hln:(TO.aT e mi f τ' (iB l (List.replicate n a) o n):TO S).len=(TO.aT e mi f τ' l:TO S).len:=pV c1
          obtain⟨e2,e3⟩:=kZ (o':=.aT e mi f τ' (iB l (List.replicate n a) o n)) ho hln
          have hze:(Builtin.zeroCells z.cells n).toList.map ix=List.flatMap (aK S τ') (List.replicate n a):=by
           letI:=jA S τ'
           exact K3 (α:=S.D τ') z2 z1 n
          have hmin:Nat.min (List.replicate n a).length n=n:=by rw[gH];exact Nat.min_self n
          have hc:(List.flatMap (aK S τ') l).take (o*S.sz τ')++(Builtin.zeroCells z.cells n).toList.map ix++(List.flatMap (aK S τ') l).drop (o*S.sz τ'+n*S.sz τ')=List.flatMap (aK S τ') (iB l (List.replicate n a) o n):=by
           rw[hze,←dA,nI,nJ,←iA,←iA]
           unfold iB
           rw[hmin]
           congr 3
           exact(b6 (by rw[gH];exact az _)).symm
          refine⟨_,EF.clear (bf hx) ho' rfl (by show _≤(List.flatMap (aK S τ') l).length;rw[eM,←dA];exact b5 _ c1) hu (by rw[hi,bG,hz]) z2 (fun i v hv=>by
           have:ix v∈aK S τ' a:=by
            rw[←z1]
            exact iV.2 ⟨v,ar (by rw[bn];exact hv),rfl⟩
           have:=o8 S τ' a _ this
           unfold ix at this
           split at this
           ·rfl
           ·exact this) (hokW hh hW) rfl,fun s' hs'=>⟨_,?_,hl.set ho _,⟨rfl,rfl,rfl⟩,h⟩⟩
          rw[e2]
          rcases hs' with hs' | ⟨h0,hs'⟩
          ·subst hs'
           show Gh ⟨s.er.fr,bw s.er.st hh ⟨e,true,mi,f&&true,S.sz τ',(List.flatMap (aK S τ') l).take (o*S.sz τ')++(Builtin.zeroCells z.cells n).toList.map ix++(List.flatMap (aK S τ') l).drop (o*S.sz τ'+n*S.sz τ'),none⟩,s.er.df⟩ ⟨s.er.fr,bw s.er.st hh ⟨e,true,mi,f,S.sz τ',List.flatMap (aK S τ') (iB l (List.replicate n a) o n),none⟩,s.er.df⟩
           rw[hc,iW]
           exact Gh.refl _
          ·subst hs'
           subst h0
           rw[xe hmin]
           show Gh ⟨s.er.fr,s.er.st,s.er.df⟩ ⟨s.er.fr,bw s.er.st hh (TO.er s.ln (.aT e mi f τ' l)),s.er.df⟩
           rw[ui ho']
           exact Gh.refl _
         ·cases h
        ·cases h
       ·cases h
      ·cases h
     ·cases h
   ·cases h
  ·cases h
 ·cases h
end
end
end Go.DN
/-
 DN,part Kg:slices of structs of slices:made;one of the slices is taken out,and put in.
-/
namespace Go.DN
open Go.AM
theorem flat_get {α β:Type}(f:α→List β){n:Nat}(hn:∀a,(f a).length=n){j:Nat}(hj:j<n):∀(l:List α) (i:Nat),(l.flatMap f)[i*n+j]?=(l[i]?).bind fun a=>(f a)[j]?
 | [],i=>by simp
 | a::l,0=>by
  rw[cn,ep,bQ,cF (by rw[hn];exact hj)]
  rfl
 | a::l,i+1=>by
  rw[cn,cS (by rw[hn,Nat.succ_mul];omega),hn,show(i+1)*n+j-n=i*n+j by rw[Nat.succ_mul];omega,flat_get f hn hj l i]
  rfl
section
variable {S:eB}
variable {P:Program}{W:List Nat}{ok:Nat→Bool}{s:ah S}{ty:TypeId}{pos:String}{after:Array Edge}{guard:Option (Nat×Bool)}{A:Type}{k:ah S→Option A}{r:A}
def PI (S:eB) (P:Program) (t:TypeId):Bool:=match P.underlying t with
 | some (.slice e)=>(S.R2 e).isSome
 | _=>false
def Di (P:Program) (s:ah S) (d:Nat) (t:TypeId) (x y:Operand){A:Type}(k:ah S→Option A):Option A:=
 none
theorem J8 {d:Nat}{t:TypeId}{x y:Operand}(hl:aY s) (h:Di P s d t x y k=some r):fx P W s ⟨some d,.makeSlice t x y,ty,pos,after,guard⟩ k r:=by
 unfold Di at h
 cases h
def Dr (s:ah S) (op:Op):Bool:=match op with
 | .load _ x=>match cm s x with
  | some (.gF h _ _ _)=>Hc s h
  | _=>false
 | _=>false
def C4 (P:Program) (ok:Nat→Bool) (s:ah S) (d:Nat) (t:TypeId) (x:Operand){A:Type}(k:ah S→Option A):Option A:=
 none
theorem JN (hokW:∀h,ok h=true→W.contains h=true){d:Nat}{t:TypeId}{x:Operand}(hl:aY s) (h:C4 P ok s d t x k=some r):fx P W s ⟨some d,.load t x,ty,pos,after,guard⟩ k r:=by
 unfold C4 at h
 cases h
def F6 (P:Program) (ok:Nat→Bool) (s:ah S) (t:TypeId) (x y:Operand){A:Type}(k:ah S→Option A):Option A:=
 none
theorem LC (hokW:∀h,ok h=true→W.contains h=true){t:TypeId}{x y:Operand}(hl:aY s) (h:F6 P ok s t x y k=some r):fx P W s ⟨none,.store t x y,ty,pos,after,guard⟩ k r:=by
 unfold F6 at h
 cases h
end
end Go.DN
/-
 DN,part Kh:maps are made,get an entry more;a slice of one of the structs grows.
-/
namespace Go.DN
open Go.AM
section
variable {S:eB}
def RF (P:Program) (t:TypeId):Option (IntKind×TypeId×TypeId):=
 match P.underlying t with
 | some (.map kt et)=>match P.underlying kt,P.underlying et with
  | some (.struct fs),some (.pointer tt)=>match P.underlying tt with
   | some (.struct gs)=>match fs.toList,gs.toList with
    | f0::_,g0::_=>match P.underlying f0.type,P.underlying g0.type with
     | some (.int q),some (.slice e)=>some (q,e,tt)
     | _,_=>none
    | _,_=>none
   | _=>none
  | _,_=>none
 | _=>none
def GJ (P:Program) (s:ah S) (d:Nat) (t:TypeId) (n:Option Operand){A:Type}(k:ah S→Option A):Option A:=
 match n with
 | none=>match s.free (s.cP d) with
  | true=>match RF P t with
   | some (q,kty,tty)=>k ((s.add (s.cP d) (.deep 0 true true (.map q kty tty) .map ⟨0,[],none⟩)).put d (.mp (s.cP d)))
   | none=>none
  | false=>none
 | some _=>none
def TV.rk (q:IntKind) (h2 h n:Nat):TV S→TV S
 | .loc x off=>bif Nat.beq x h2 then .kp h (.list (.int q)) n off else .loc x off
 | v=>match v.has h2 with | true=>.any | false=>v
def LG (q:IntKind) (h2 h n:Nat):List (Nat×TV S)→List (Nat×TV S)
 | []=>[]
 | (t,v)::r=>(t,v.rk q h2 h n)::LG q h2 h n r
def TO.rk (q:IntKind) (h2 h n:Nat):TO S→TO S
 | .box e m cs=>.box e m (cs.map (TV.rk q h2 h n))
 | .lp l m cs=>.lp l m (cs.map (TV.rk q h2 h n))
 | o=>o
def Ga (q:IntKind) (h2 h n:Nat):List (Nat×TO S)→List (Nat×TO S)
 | []=>[]
 | (t,o)::r=>bif Nat.beq t h2 then Ga q h2 h n r else(t,o.rk q h2 h n)::Ga q h2 h n r
def ah.rk (s:ah S) (q:IntKind) (h2 h n:Nat) (o:TO S):ah S:={s with fr:=LG q h2 h n s.fr,st:=(h,o)::Ga q h2 h n s.st,last:=[]}
theorem JQ {q:IntKind}{h2 h n:Nat}{v:TV S}(hv:v.has h2=false):v.rk q h2 h n=v:=by
 cases v with
 | loc x off=>
  show(bif Nat.beq x h2 then _ else _)=_
  rw[show Nat.beq x h2=false from hv];rfl
 | _=>simp only[TV.rk,hv]
theorem F9 {q:IntKind}{h2 h n:Nat}:∀{l:List (TV S)},TV.has.go h2 l=false→l.map (TV.rk q h2 h n)=l
 | [],_=>rfl
 | v::r,e=>by
  simp only[TV.has.go,bD] at e
  rw[aH,JQ e.1,F9 e.2]
theorem Qx (q:IntKind) (h2 h n:Nat) (o:TO S):(o.rk q h2 h n).len=o.len:=by cases o <;> rfl
theorem FC {q:IntKind}{h2 h n:Nat}:∀{fr:List (Nat×TV S)}{d:Nat},bc (LG q h2 h n fr) d=(bc fr d).map (TV.rk q h2 h n)
 | [],_=>rfl
 | (t,v)::r,d=>by
  simp only[LG,bc]
  cases Nat.beq t d with
  | true=>rfl
  | false=>exact FC
theorem AN {q:IntKind}{h2 h n:Nat}:∀{st:List (Nat×TO S)}{x:Nat},aw (Ga q h2 h n st) x=bif Nat.beq x h2 then none else(aw st x).map (TO.rk q h2 h n)
 | [],x=>by simp only[Ga,aw,Option.map_none];cases Nat.beq x h2 <;> rfl
 | (t,o)::r,x=>by
  simp only[Ga]
  cases hm:Nat.beq t h2 with
  | true=>
   simp only[cond_true]
   rw[AN]
   simp only[aw]
   cases hb:Nat.beq t x with
   | true=>
    have:=aa hb
    subst this
    rw[hm];rfl
   | false=>rfl
  | false=>
   simp only[aw,cond_false]
   cases hb:Nat.beq t x with
   | true=>
    have:=aa hb
    subst this
    rw[hm];rfl
   | false=>exact AN
theorem LF {s:ah S}{q:IntKind}{h h2 n:Nat}{o:TO S}(hi:inner s [h2]=true) (x:Nat):aw (s.rk q h2 h n o).bg x=bif Nat.beq h x then some o else bif Nat.beq x h2 then none else(aw s.bg x).map (TO.rk q h2 h n):=by
 obtain⟨i1,i2,i3,i4⟩:=iZ hi h2 av
 show aw ((h,o)::(Ga q h2 h n s.st++s.bL)) x=_
 simp only[aw]
 cases hb:Nat.beq h x with
 | true=>rfl
 | false=>
  simp only[cond_false]
  rw[db,AN]
  show _=bif Nat.beq x h2 then none else(aw (s.st++s.bL) x).map (TO.rk q h2 h n)
  rw[db]
  cases hm:Nat.beq x h2 with
  | true=>
   have:=aa hm
   subst this
   exact i1
  | false=>
   simp only[cond_false]
   cases h1:aw s.st x with
   | some o=>rfl
   | none=>
    show aw s.bL x=(aw s.bL x).map _
    cases h3:aw s.bL x with
    | none=>rfl
    | some o2=>
     rw[bG]
     have hn:o2.has h2=false:=oS h3 i4
     cases o2 with
     | box e m cs=>simp only[TO.rk];rw[F9 (l:=cs) hn]
     | lp l n cs=>simp only[TO.rk];rw[F9 (l:=cs) hn]
     | _=>rfl
theorem Qy {s:ah S}{q:IntKind}{h h2 n:Nat}{o:TO S}(hi:inner s [h2]=true) (d:Nat):bc (s.rk q h2 h n o).bW d=(bc s.bW d).map (TV.rk q h2 h n):=by
 show bc (LG q h2 h n s.fr++s.lo) d=(bc (s.fr++s.lo) d).map _
 rw[jV,jV,FC]
 cases bc s.fr d with
 | some v=>rfl
 | none=>
  show bc s.lo d=(bc s.lo d).map _
  cases h3:bc s.lo d with
  | none=>rfl
  | some v=>rw[bG,JQ (na h3 (iZ hi h2 av).2.2.1)]
theorem Ac {rn:G→G}:∀{fr:List (Nat×G)}{t:Nat}{g:G},AM.get fr t=some g→AM.get (u1 rn fr) t=some (rn g)
 | [],_,_,e=>by cases e
 | (k,g')::r,t,g,e=>by
  simp only[AM.get] at e
  simp only[u1,aH,AM.get]
  cases hb:Nat.beq k t with
  | true=>rw[hb] at e;cases e;rfl
  | false=>rw[hb] at e;exact Ac e
theorem Ry {s:ah S}{q:IntKind}{h h2 n:Nat}{o o':TO S}{s1:St}(ho:aw s.st h=some o) (hlen:o'.len=o.len) (hln:∀ln ln',o'.er ln=o'.er ln') (hi:inner s [h2]=true) (hne:h2≠h)
  (h1:s1.fr=u1 (lW h2 h n) s.er.fr) (hst:aq s1.st h=some (o'.er s.ln)) (h3:∀x k0,x≠h→x≠h2→aq s.er.st x=some k0→aq s1.st x=some (vk (lW h2 h n) k0)) (h4:s1.df=s.er.df):
  Gh s1 (s.rk q h2 h n o').er∧aY (s.rk q h2 h n o')∧bz s (s.rk q h2 h n o'):=by
 have hag:∀x,x≠h2→s.ln x=(s.rk q h2 h n o').ln x:=by
  intro x hx
  show bZ s.bg x=bZ (s.rk q h2 h n o').bg x
  unfold bZ
  rw[LF hi]
  cases hb:Nat.beq h x with
  | true=>
   have:=aa hb
   subst this
   rw[dQ ho];exact hlen.symm
  | false=>
   have hm:Nat.beq x h2=false:=by
    cases hm:Nat.beq x h2 with
    | false=>rfl
    | true=>exact absurd (aa hm) hx
   rw[hm]
   simp only[cond_false]
   cases aw s.bg x with
   | none=>rfl
   | some o=>exact(Qx q h2 h n o).symm
 have hcv:∀v:TV S,CV s1.st (s.rk q h2 h n o').er.st (lW h2 h n (v.er s.ln)) ((v.rk q h2 h n).er (s.rk q h2 h n o').ln):=by
  intro v
  cases hv:v.has h2 with
  | false=>
   rw[JQ hv,Gb _ (by rw[tA];exact hv),oJ (ln:=s.ln) (ln':=(s.rk q h2 h n o').ln) v fun k hk=>hag k fun hm=>by subst hm;rw[hv] at hk;cases hk]
   exact CV.refl _ _ _
  | true=>
   cases v with
   | loc x off=>
    have hv:Nat.beq x h2=true:=hv
    have e1:(TV.loc x off:TV S).rk q h2 h n=.kp h (.list (.int q)) n off:=by
     show(bif Nat.beq x h2 then _ else _)=_
     rw[hv];rfl
    have e2:lW h2 h n ((TV.loc x off:TV S).er s.ln)=.kp h n off:=by
     show(bif Nat.beq x h2 then _ else _)=_
     rw[hv];rfl
    rw[e1,e2]
    have:(TV.kp h (.list (.int q)) n off:TV S).er (s.rk q h2 h n o').ln=.kp h n off:=by
     show G.kp h n (off*1)=_
     rw[dX]
    rw[this]
    exact CV.refl _ _ _
   | _=>
    simp only[TV.rk,hv]
    exact CV.any _ _ _
 have hcvL:∀cs:List (TV S),Ia s1.st (s.rk q h2 h n o').er.st ((TV.er.go s.ln cs).map (lW h2 h n)) (TV.er.go (s.rk q h2 h n o').ln (cs.map (TV.rk q h2 h n))):=by
  intro cs
  induction cs with
  | nil=>exact⟨rfl,fun j g' hg'=>by simp[TV.er.go] at hg'⟩
  | cons v r ih=>
   refine⟨by simp only[aH,TV.er.go,bN,ih.1],fun j g' hg'=>?_⟩
   simp only[aH,TV.er.go] at hg'⊢
   cases j with
   | zero=>cases hg';exact⟨_,rfl,hcv v⟩
   | succ j=>exact ih.2 j g' hg'
 refine⟨Gh.gen (fun d g' hg'=>?_) (fun x k' hk'=>?_) ?_,gE rfl,⟨rfl,rfl,rfl⟩⟩
 ·obtain⟨v',e1,rfl⟩:=wV hg'
  rw[Qy hi] at e1
  obtain⟨v,e2,rfl⟩:=au.1 e1
  refine⟨lW h2 h n (v.er s.ln),?_,hcv v⟩
  rw[h1]
  exact Ac (eZ e2)
 ·obtain⟨o2,e1,rfl⟩:=oU hk'
  rw[LF hi] at e1
  cases hb:Nat.beq h x with
  | true=>
   rw[hb] at e1
   cases e1
   have:=aa hb
   subst this
   refine⟨_,hst,?_⟩
   rw[hln (s.rk q h2 h n o').ln s.ln]
   exact oq.refl _ _ _
  | false=>
   rw[hb] at e1
   simp only[cond_false] at e1
   cases hm:Nat.beq x h2 with
   | true=>rw[hm] at e1;cases e1
   | false=>
    rw[hm] at e1
    simp only[cond_false] at e1
    obtain⟨o3,e2,rfl⟩:=au.1 e1
    refine⟨_,h3 x _ (fun e=>by subst e;rw[aG] at hb;cases hb) (fun e=>by subst e;rw[aG] at hm;cases hm) (fJ e2),?_⟩
    cases o3 with
    | box e m cs=>exact⟨rfl,id,rfl,rfl,rfl,(hcvL cs).1,.inr ⟨rfl,(hcvL cs).2⟩⟩
    | lp l n cs=>exact⟨rfl,id,rfl,rfl,rfl,(hcvL cs).1,.inr ⟨rfl,(hcvL cs).2⟩⟩
    | aT e m f τ l=>exact oq.refl _ _ _
    | deep e m f dk τ a=>exact oq.refl _ _ _
 ·rw[h4]
  show TV.er.go s.ln s.df=TV.er.go (s.rk q h2 h n o').ln s.df
  exact lq _ fun k hk=>hag k fun hm=>by subst hm;rw[(iZ hi k av).2.1] at hk;cases hk
def zH:List (TV S)→Bool
 | []=>true
 | .val (.slice none 0 0)::r=>zH r
 | _::_=>false
theorem CI (ln:Nat→Nat):∀{cs:List (TV S)},zH cs=true→TV.er.go ln cs=List.replicate cs.length (.val (.slice none 0 0))
 | [],_=>rfl
 | v::r,h=>by
  unfold zH at h
  split at h
  ·rename_i e
   cases e
  ·rename_i r' e
   cases e
   simp only[TV.er.go,CI ln h,bN,nR]
   rfl
  ·cases h
def yt (d:bC) (a b:Int) (n:Nat):bC:=⟨d.n+1,d.es++[⟨a,b,d.n,List.replicate n (iC,[])⟩],d.pd⟩
def Dj (P:Program) (ok:Nat→Bool) (s:ah S) (t:TypeId) (x y z:Operand){A:Type}(k:ah S→Option A):Option A:=
 match cm s x with
 | some (.mp h)=>match cm s z with
  | some (.loc h2 0)=>match ok h&&(ok h2&&(!(Nat.beq h2 h)&&inner s [h2])) with
   | true=>match aw s.st h with
    | some (.deep e m f (.map q kty tty) .map d)=>match aw s.st h2 with
     | some (.box e2 m2 cs)=>match m2&&(Nat.beq e2 tty&&zH cs) with
      | true=>match cm s y with
       | some vy=>match Kt q vy with
        | some (a,b)=>match P.underlying t with
         | some (.map kt et)=>match E9 P kt q with
          | true=>(bq (d.n+1≤maxLen∧uq d.es a b=true)).bind fun _=>k (s.rk q h2 h d.n (.deep e m f (.map q kty tty) .map (yt d a b cs.length)))
          | false=>none
         | _=>none
        | none=>none
       | none=>none
      | false=>none
     | _=>none
    | _=>none
   | false=>none
  | _=>none
 | _=>none
theorem PP (q:IntKind) (n:Nat):(List.replicate n ((iC,[]):Nat×List Int)).map (fun p=>(p.1,gA q p.2))=List.replicate n (iC,[]):=by
 rw[List.map_replicate];rfl
def uo (z:Nat):List (Nat×List Int)→Nat→Option Nat
 | [],_=>none
 | (x,_)::r,j=>bif Nat.beq x z then some j else uo z r (j+1)
def yq (z:Nat):List bP→Option (Nat×Nat)
 | []=>none
 | e::r=>match uo z e.f 0 with
  | some j=>some (e.t,j)
  | none=>yq z r
def pF (d:bC) (z n:Nat) (x:Int) (bt:Nat):Option bC:=
 (bq (d.pd.isNone=true∧d.n+1≤maxLen∧n+1≤maxLen∧(n+1)*bt≤140737488355328)).bind fun _=>
  match n with
  | 0=>(bq (z=iC)).bind fun _=>some ⟨d.n+1,d.es,some (none,d.n,[x])⟩
  | _+1=>(yq z d.es).bind fun p=>(il d.es p.1 p.2).bind fun q=>(bq (q.1=z∧q.2.length=n)).bind fun _=>some ⟨d.n+1,d.es,some (some p,d.n,q.2++[x])⟩
def qY (es:List bP) (t j:Nat) (p:Nat×List Int):List bP:=es.map fun e=>bif Nat.beq e.t t then {e with f:=e.f.set j p} else e
def jY (d:bC) (t j z n:Nat):Option bC:=
 match d.pd with
 | none=>none
 | some (sr,x,l)=>(bq (x=z∧List.length l=n∧(sr=none∨sr=some (t,j)))).bind fun _=>(u3 d.es t).bind fun e=>(bq (j<e.f.length)).bind fun _=>some ⟨d.n,qY d.es t j (x,l),none⟩
def NH (s:ah S):List Operand→Bool
 | [x,_]=>match cm s x with
  | some (.ks h _ _ _)=>match aw s.st h with
   | some (.deep _ _ _ (.map _ _ _) .map _)=>true
   | _=>false
  | _=>false
 | _=>false
def Dl (P:Program) (ok:Nat→Bool) (s:ah S) (d:Nat) (c:Call){A:Type}(k:ah S→Option A):Option A:=
 match c.args.toList,c.argTypes.toList with
 | [x,y],[t,t']=>match decEq t t' with
  | isFalse _=>none
  | isTrue _=>match P.underlying t with
   | some (.slice e0)=>match cm s x with
    | some (.ks h τ z n)=>match ok h with
     | false=>none
     | true=>match aw s.st h with
      | some (.deep e m f (.map q kty tty) .map dd)=>match decEq τ (.int q),decEq e0 kty with
       | isTrue _,isTrue _=>match cm s y with
        | some (.aO h3 _)=>match aw s.bg h3 with
         | some (.aT _ _ _ (.int q3) [v])=>match decEq q3 q with
          | isTrue _=>match P.info? e0 with
           | some i=>match i.zero with
            | some zv=>match decEq i.size 1,decEq zv.cells.size 1 with
             | isTrue _,isTrue _=>(pF dd z n v i.bytes).bind fun dd'=>k ((s.set h (.deep e m f (.map q kty tty) .map dd')).put d (.ks h (.int q) dd.n (n+1)))
             | _,_=>none
            | none=>none
           | none=>none
          | isFalse _=>none
         | _=>none
        | _=>none
       | _,_=>none
      | _=>none
    | _=>none
   | _=>none
 | _,_=>none
def PK (s:ah S) (x:Operand):Bool:=match cm s x with
 | some (.kp h _ _ _)=>match aw s.st h with
  | some (.deep _ _ _ (.map _ _ _) .map _)=>true
  | _=>false
 | _=>false
def GR (P:Program) (ok:Nat→Bool) (s:ah S) (t:TypeId) (x y:Operand){A:Type}(k:ah S→Option A):Option A:=
 match cm s x with
 | some (.kp h (.list _) i j)=>match cm s y with
  | some (.ks h2 τ z n)=>match ok h with
   | false=>none
   | true=>match aw s.st h with
    | some (.deep e m f (.map q kty tty) .map dd)=>match decEq h2 h,decEq τ (.int q),decEq (kq P t) (some 1) with
     | isTrue _,isTrue _,isTrue _=>(jY dd i j z n).bind fun dd'=>k (s.set h (.deep e m f (.map q kty tty) .map dd'))
     | _,_,_=>none
    | _=>none
  | _=>none
 | _=>none
def CJ:List (TV S)→Bool
 | []=>true
 | .ks _ τ _ _::r=>(match τ with | .st _=>false | _=>true)&&CJ r
 | _::_=>false
def RJ (s:ah S) (parts:List (Nat×Operand)):Bool:=
 match parts with
 | []=>false
 | _=>match vq s parts 0 with
  | some vs=>CJ vs
  | none=>false
def KS (P:Program) (s:ah S) (d:Nat) (t:TypeId) (n:Nat) (parts:Array (Nat×Operand)){A:Type}(k:ah S→Option A):Option A:=
 match s.free (s.cP d) with
 | true=>match P.underlying t with
  | some (.slice e)=>match P.info? e with
   | some i=>match i.zero with
    | some _=>match decEq i.size 1 with
     | isTrue _=>match vq s parts.toList 0 with
      | some (v::vs)=>match v with
       | .ks _ τ _ _=>match CJ (v::vs)&&(Nat.beq (vs.length+1) n&&(Nat.ble n 16777216&&!(TV.has.go (s.cP d) (v::vs)))) with
        | true=>k ((s.add (s.cP d) (.box e true (v::vs))).put d (.sub (s.cP d) (.list τ) 0 n))
        | false=>none
       | _=>none
      | _=>none
     | isFalse _=>none
    | none=>none
   | none=>none
  | _=>none
 | false=>none
section
variable {P:Program}{W:List Nat}{s:ah S}{ty:TypeId}{pos:String}{after:Array Edge}{guard:Option (Nat×Bool)}{A:Type}{k:ah S→Option A}{r:A}
theorem L1 {d:Nat}{t:TypeId}{n:Option Operand}(hl:aY s) (h:GJ P s d t n k=some r):fx P W s ⟨some d,.makeMap t n,ty,pos,after,guard⟩ k r:=by
 unfold GJ at h
 split at h
 ·split at h
  ·rename_i hf
   split at h
   ·rename_i q kty tty _
    obtain⟨e1,_⟩:=oo hf (.deep 0 true true (.map q kty tty) .map ⟨0,[],none⟩) rfl
    refine .one _ (EF.mkMap (s.cP d) q kty tty (gk hf)) ?_ ((hl.add _ hf).put _ _) ⟨rfl,rfl,rfl⟩ h
    rw[fB,e1]
    exact Gh.refl _
   ·cases h
  ·cases h
 ·cases h
theorem J9 {ok:Nat→Bool}(hokW:∀h,ok h=true→W.contains h=true){t:TypeId}{x y z:Operand}(hl:aY s) (h:Dj P ok s t x y z k=some r):fx P W s ⟨none,.mapUpdate t x y z,ty,pos,after,guard⟩ k r:=by
 unfold Dj at h
 split at h
 ·rename_i hh hx
  split at h
  ·rename_i h2 hz
   split at h
   ·rename_i hc
    simp only[ai,a6] at hc
    obtain⟨c1,c2,c3,c4⟩:=hc
    split at h
    ·rename_i e m f q kty tty dd ho
     split at h
     ·rename_i e2 m2 cs ho2
      split at h
      ·rename_i hb
       simp only[ai] at hb
       obtain⟨b1,b2,b3⟩:=hb
       split at h
       ·rename_i vy hy
        split at h
        ·rename_i a b hk
         split at h
         ·rename_i kt et hu
          split at h
          ·rename_i hK
           obtain⟨_,hck,h⟩:=bind_some h
           obtain⟨k1,k2⟩:=cj hck
           have hy:=bf hy
           rw[IZ hk] at hy
           have hne:h2≠hh:=fun e=>by subst e;rw[aG] at c3;cases c3
           have hno:mh (dd.es.map (bP.me q)) (a,b)=none:=by
            rw[zz]
            unfold uq at k2
            cases hm:gz dd.es a b with
            | none=>rfl
            | some _=>rw[hm] at k2;cases k2
           have hs1:=cO (dQ ho)
           have hs2:=cO (dQ ho2)
           have hoE:(TO.deep e m f (.map q kty tty) .map (yt dd a b cs.length):TO S).er s.ln=⟨e,true,m,f,1,[],some (.deep (fF q kty tty (dd.n+1) (List.map (bP.me q) dd.es++[ME.mk (a,b) dd.n (List.replicate cs.length (iC,[]))]) (vo q dd.pd)))⟩:=by
            show ap.mk _ _ _ _ _ _ (some (.deep (fF q kty tty (dd.n+1) (List.map (bP.me q) (dd.es++[bP.mk a b dd.n (List.replicate cs.length (iC,[]))])) (vo q dd.pd))))=_
            rw[kv]
            simp only[aH,ir,bP.me,PP]
           obtain⟨g1,g2,g3⟩:=Ry (s:=s) (q:=q) (h:=hh) (h2:=h2) (n:=dd.n) (o':=.deep e m f (.map q kty tty) .map (yt dd a b cs.length))
            (s1:={fr:=u1 (lW h2 hh dd.n) s.er.fr,st:=bw (AD (lW h2 hh dd.n) (oB s.er.st h2)) hh ⟨e,true,m,f,1,[],some (.deep (fF q kty tty (dd.n+1) (List.map (bP.me q) dd.es++[ME.mk (a,b) dd.n (List.replicate cs.length (iC,[]))]) (vo q dd.pd)))⟩,df:=s.er.df})
            ho rfl (fun _ _=>rfl) c4 hne rfl (by rw[hoE,eY (pn (kY (Ne.symm hne) hs1))]) (fun x k0 hx1 hx2 h0=>by
             show aq (bw _ _ _) _=_
             rw[eK hx1]
             exact pn (kY hx2 h0)) rfl
           refine .one _ (EF.QQ (q:=q) (kty:=kty) (tty:=tty) (n:=dd.n) (es:=dd.es.map (bP.me q)) (pd:=vo q dd.pd) (ky:=(a,b)) (zf:=cs.length) (bf hx) hy (bf hz) c3 hs1 rfl hu (Ha hK) hno hs2 rfl (aa b2) b1 (CI _ b3) k1 (by rw[show s.er.df=TV.er.go s.ln s.df from rfl,zF,(iZ c4 h2 av).2.1];rfl) (hokW _ c1) (hokW _ c2)) g1 g2 g3 h
          ·cases h
         ·cases h
        ·cases h
       ·cases h
      ·cases h
     ·cases h
    ·cases h
   ·cases h
  ·cases h
 ·cases h
theorem NK (q:IntKind) (l:List Int) (x:Int):gA q (l++[x])=gA q l++[.val (.int q x)]:=by simp[gA]
theorem NJ {q:IntKind}{l:List Int}(h:l≠[]):gA q l≠[]:=by
 intro e
 apply h
 cases l with
 | nil=>rfl
 | cons a r=>cases e
theorem Ka {ok:Nat→Bool}(hokW:∀h,ok h=true→W.contains h=true){d:Nat}{args:Array Operand}{ts:Array TypeId}(hl:aY s) (h:Dl P ok s d ⟨.builtin .append,args,ts⟩ k=some r):
  fx P W s ⟨some d,.call ⟨.builtin .append,args,ts⟩,ty,pos,after,guard⟩ k r:=by
 unfold Dl at h
 dsimp only at h
 split at h
 ·rename_i x y t t' h1 h2
  have h1:=l8 h1
  have h2:=l8 h2
  subst h1;subst h2
  split at h
  ·cases h
  ·rename_i e1 _
   subst e1
   split at h
   ·rename_i e0 hu
    split at h
    ·rename_i hh τ z n hx
     split at h
     ·cases h
     ·rename_i hW
      split at h
      ·rename_i e m f q kty tty dd ho
       split at h
       ·rename_i e1 e2 _ _
        subst e1;subst e2
        split at h
        ·rename_i h3 τ3 hy
         split at h
         ·rename_i e3 m3 f3 q3 v ho3
          split at h
          ·rename_i e1 _
           subst e1
           split at h
           ·rename_i i hi
            split at h
            ·rename_i zv hz
             split at h
             ·rename_i i1 i2 _ _
              obtain⟨dd',hd,h⟩:=bind_some h
              unfold pF at hd
              obtain⟨_,hck,hd⟩:=bind_some hd
              obtain⟨k1,k2,k3,k4⟩:=cj hck
              have hpd:dd.pd=none:=by
               cases hp:dd.pd with
               | none=>rfl
               | some _=>rw[hp] at k1;cases k1
              have ho':=cO (dQ ho)
              have ho3':=cO ho3
              have hinfo:(P.info? e0).map (fun i=>(i.zero,i.size,i.bytes))=some (some zv,1,i.bytes):=by rw[hi,bG,hz,i1]
              have hln3:s.ln h3=1:=l4 ho3
              have hsrc:∃(l:List Int) (sr:Option (Nat×Nat)),n=l.length∧dd'=⟨dd.n+1,dd.es,some (sr,dd.n,l++[v])⟩∧((z=iC∧gA q3 l=[]∧sr=none)∨(gA q3 l≠[]∧∃tt j e,sr=some (tt,j)∧ve (dd.es.map (bP.me q3)) tt=some e∧e.f[j]?=some (z,gA q3 l))):=by
               split at hd
               ·obtain⟨_,hck,hd⟩:=bind_some hd
                cases hd
                exact⟨[],none,rfl,rfl,.inl ⟨cj hck,rfl,rfl⟩⟩
               ·rename_i n'
                obtain⟨p,q1,hd⟩:=bind_some hd
                obtain⟨qq,q2,hd⟩:=bind_some hd
                obtain⟨_,hck,hd⟩:=bind_some hd
                obtain⟨c1,c2⟩:=cj hck
                cases hd
                obtain⟨z',l⟩:=qq
                dsimp only at c1 c2
                subst c1
                obtain⟨e',r1,r2⟩:=IR q2 q3
                refine⟨l,some p,c2.symm,rfl,.inr ⟨NJ (by intro e;subst e;cases c2),p.1,p.2,e',rfl,r1,r2⟩⟩
              obtain⟨l,sr,hn,hdd,hsr⟩:=hsrc
              subst hn;subst hdd
              obtain⟨e2,e3⟩:=kZ (s:=s) (o':=.deep e m f (.map q3 e0 tty) .map ⟨dd.n+1,dd.es,some (sr,dd.n,l++[v])⟩) ho rfl
              have hil:(gA q3 l).length=l.length:=AY q3 l
              have hoE:aq s.er.st hh=some ⟨e,true,m,f,1,[],some (.deep (fF q3 e0 tty dd.n (dd.es.map (bP.me q3)) none))⟩:=by
               rw[ho']
               show some (ap.mk _ _ _ _ _ _ (some (.deep (fF q3 e0 tty dd.n (dd.es.map (bP.me q3)) (vo q3 dd.pd)))))=_
               rw[hpd];rfl
              have:=EF.QT (P:=P) (W:=W) (ty:=ty) (pos:=pos) (after:=after) (guard:=guard) (s:=s.er) (d:=d) (t:=t) (e0:=e0) (x:=x) (y:=y) (h:=hh) (z:=z) (n:=dd.n) (bt:=i.bytes) (q:=q3) (kty:=e0) (tty:=tty) (es:=dd.es.map (bP.me q3)) (sr:=sr) (gs:=gA q3 l)
               (gy:=.aO h3 (S.sz τ3) 0 1) (v0:=.int q3 v) (f:=f3) (zv:=zv) (by rw[bf hx,hil];rfl) (by rw[bf hy];show some (G.aO h3 _ 0 (s.ln h3))=_;rw[hln3]) hoE rfl hsr (by simp only[oF,ho3'];rfl) rfl rfl hu hinfo i2 k2 (by rw[hil];exact k3) (by rw[hil];exact k4) (hokW _ hW)
              refine .one _ this ?_ ((hl.set ho _).put _ _) ⟨rfl,rfl,rfl⟩ h
              rw[fB,e2]
              rw[hil]
              have hpg:vo q3 (some (sr,dd.n,l++[v]))=some (sr,dd.n,gA q3 l++[.val (.int q3 v)]):=by
               show some (sr,dd.n,gA q3 (l++[v]))=_
               rw[NK]
              have hE2:(TO.deep e m f (.map q3 e0 tty) .map ⟨dd.n+1,dd.es,some (sr,dd.n,l++[v])⟩:TO S).er s.ln=⟨e,true,m,f,1,[],some (.deep (fF q3 e0 tty (dd.n+1) (dd.es.map (bP.me q3)) (some (sr,dd.n,gA q3 l++[.val (.int q3 v)]))))⟩:=by
               rw[←hpg];rfl
              rw[hE2]
              exact Gh.refl _
             ·cases h
            ·cases h
           ·cases h
          ·cases h
         ·cases h
        ·cases h
       ·cases h
      ·cases h
    ·cases h
   ·cases h
 ·cases h
theorem IB (q:IntKind) (t j z:Nat) (l:List Int):∀es:List bP,wk (es.map (bP.me q)) t j (z,gA q l)=(qY es t j (z,l)).map (bP.me q)
 | []=>rfl
 | e::r=>by
  have ih:=IB q t j z l r
  simp only[wk,qY,aH] at ih⊢
  rw[ih]
  congr 1
  show(bif Nat.beq e.t t then _ else _)=bP.me q (bif Nat.beq e.t t then _ else _)
  cases Nat.beq e.t t with
  | true=>
   show ME.mk _ _ _=ME.mk _ _ _
   congr 1
   show(e.f.map _).set j _=(e.f.set j (z,l)).map _
   rw[kz]
  | false=>rfl
theorem L3 {ok:Nat→Bool}(hokW:∀h,ok h=true→W.contains h=true){t:TypeId}{x y:Operand}(hl:aY s) (h:GR P ok s t x y k=some r):fx P W s ⟨none,.store t x y,ty,pos,after,guard⟩ k r:=by
 unfold GR at h
 split at h
 ·rename_i hh τ0 i j hx
  split at h
  ·rename_i h2 τ z n hy
   split at h
   ·cases h
   ·rename_i hW
    split at h
    ·rename_i e m f q kty tty dd ho
     split at h
     ·rename_i e1 e2 hsz _ _ _
      subst e1;subst e2
      obtain⟨dd',hd,hk0⟩:=bind_some h
      unfold jY at hd
      split at hd
      ·cases hd
      ·rename_i sr x' l hp
       obtain⟨_,hck,hd⟩:=bind_some hd
       obtain⟨c1,c2,c3⟩:=cj hck
       obtain⟨e',q1,hd⟩:=bind_some hd
       obtain⟨_,hck,hd⟩:=bind_some hd
       have c4:=cj hck
       cases hd
       subst c1;subst c2
       have ho':=cO (dQ ho)
       obtain⟨e2,e3⟩:=kZ (s:=s) (o':=.deep e m f (.map q kty tty) .map ⟨dd.n,qY dd.es i j (x',l),none⟩) ho rfl
       have hoE:aq s.er.st h2=some ⟨e,true,m,f,1,[],some (.deep (fF q kty tty dd.n (dd.es.map (bP.me q)) (some (sr,x',gA q l))))⟩:=by
        rw[ho']
        show some (ap.mk _ _ _ _ _ _ (some (.deep (fF q kty tty dd.n (dd.es.map (bP.me q)) (vo q dd.pd)))))=_
        rw[hp];rfl
       have:=EF.RG (P:=P) (W:=W) (ty:=ty) (pos:=pos) (after:=after) (guard:=guard) (s:=s.er) (t:=t) (x:=x) (y:=y) (h:=h2) (tt:=i) (j:=j) (z:=x') (n:=dd.n) (sr:=sr) (q:=q) (kty:=kty) (tty:=tty) (es:=dd.es.map (bP.me q)) (e:=bP.me q e') (gs:=gA q l)
        (by rw[bf hx];show some (G.kp h2 i (j*1))=_;rw[dX]) (by rw[bf hy,AY];rfl) hoE rfl c3 (by rw[Fz,q1];rfl) (by show j<(e'.f.map _).length;rw[a5];exact c4) (dw hsz) (hokW _ hW)
       refine .one _ this ?_ (hl.set ho _) ⟨rfl,rfl,rfl⟩ hk0
       rw[e2,IB]
       exact Gh.refl _
     ·cases h
    ·cases h
  ·cases h
 ·cases h
theorem Gh.Sr {fr:List (Nat×G)}{r:List (Nat×ap)}{df:List G}{h:Nat}{e:TypeId}{p m f:Bool}{n:Nat}{cs:List G}:
  Gh ⟨fr,(h,⟨e,p,m,f,n,cs,none⟩)::r,df⟩ ⟨fr,(h,⟨e,p,m,f,0,cs,none⟩)::r,df⟩:=by
 have hg:∀x k',aq ((h,(⟨e,p,m,f,0,cs,none⟩:ap))::r) x=some k'→∃k,aq ((h,(⟨e,p,m,f,n,cs,none⟩:ap))::r) x=some k∧(k'=k∨(k'=⟨e,p,m,f,0,cs,none⟩∧k=⟨e,p,m,f,n,cs,none⟩)):=by
  intro x k' hk
  simp only[aq] at hk⊢
  cases hb:Nat.beq h x with
  | true=>rw[hb] at hk;cases hk;exact⟨_,rfl,.inr ⟨rfl,rfl⟩⟩
  | false=>rw[hb] at hk;exact⟨_,hk,.inl rfl⟩
 refine Gh.of (fun N cx μ a w hr=>?_) fun x k' hk=>let ⟨k,h1,_⟩:=hg x k' hk;⟨k,h1⟩
 have hO:∀b,b<w.heap.size→¬cx.O ((h,(⟨e,p,m,f,n,cs,none⟩:ap))::r) μ b→¬cx.O ((h,(⟨e,p,m,f,0,cs,none⟩:ap))::r) μ b:=fun b _ hn ho=>hn (ho.imp id fun ⟨x,k,c,mm,h1,h2,hi⟩=>let ⟨k0,h3,_⟩:=hg x k h1;⟨x,k0,c,mm,h3,h2,hi⟩)
 refine {st:={c8:=?_,cz:=?_,bR:=?_,dZ:=?_,dY:=hr.st.dY,hb:=hr.st.hb,os:=hr.st.os,tape:=hr.st.tape,output:=hr.st.output,cY:=hr.st.cY},nd:=hr.nd.mono (Kept.refl _ _) hO,sz:=hr.sz,fr:=fun d g' hg'=>let ⟨v,h1,h2⟩:=hr.fr d g' hg';⟨v,h1,h2.mono (Kept.refl _ _) hO (az _)⟩}
 ·intro x k' hk
  obtain⟨k,h1,h2⟩:=hg x k' hk
  have hb:=(hr.st.c8 x k h1).mono (fun _ _ _ _ _=>rfl) (Kept.refl _ _) hO
  rcases h2 with h2 | ⟨h2,h3⟩
  ·rw[h2];exact hb
  ·subst h2;subst h3
   cases hm:μ x with
   | none=>rw[hm] at hb;exact hb.ti rfl rfl rfl
   | some bm=>
    obtain⟨b,mm⟩:=bm
    rw[hm] at hb
    obtain⟨cs,q1,q2,q3,q4,q5,q6⟩:=hb.cells rfl
    exact .mk rfl (hb.kf rfl) ⟨cs,q1,q2,q3,q4,fun h0=>absurd rfl h0,q6⟩
 ·intro x x' k1 k2 y b m b' m' h1 h2
  obtain⟨k1',h1',_⟩:=hg x k1 h1
  obtain⟨k2',h2',_⟩:=hg x' k2 h2
  exact hr.st.cz x x' k1' k2' y b m b' m' h1' h2'
 ·intro x k1 b m y h1 h2 hi
  obtain⟨k,hk,c⟩:=hg x k1 h1
  obtain⟨a1,a2,a3,a4⟩:=hr.st.bR x k b m y hk h2 hi
  refine⟨a1,a2,a3,fun hm=>a4 ?_⟩
  rcases c with c | ⟨c,c'⟩
  ·rw[←c];exact hm
  ·subst c;subst c';exact hm
 ·intro x k1 h1 h2
  obtain⟨k1',h1',_⟩:=hg x k1 h1
  exact hr.st.dZ x k1' h1' h2
theorem H5 (ln:Nat→Nat):∀{vs:List (TV S)},CJ vs=true→oY 1 (TV.er.go ln vs)=true∧(TV.er.go ln vs).flatMap cJ=TV.er.go ln vs
 | [],_=>⟨rfl,rfl⟩
 | v::r,h=>by
  unfold CJ at h
  split at h
  ·rename_i e;cases e
  ·rename_i τ _ _ r' e
   cases e
   simp only[ai] at h
   obtain⟨i1,i2⟩:=H5 ln h.2
   simp only[TV.er.go,TV.er,oY,cn,i2]
   refine⟨?_,rfl⟩
   rw[i1];rfl
  ·cases h
theorem Om {d:Nat}{t:TypeId}{n:Nat}{parts:Array (Nat×Operand)}(hl:aY s) (h:KS P s d t n parts k=some r):fx P W s ⟨some d,.buildSlice t n parts,ty,pos,after,guard⟩ k r:=by
 unfold KS at h
 split at h
 ·rename_i hf
  split at h
  ·rename_i e hu
   split at h
   ·rename_i i hi
    split at h
    ·rename_i z hz
     split at h
     ·rename_i hs _
      split at h
      ·rename_i v vs hv
       split at h
       ·rename_i h0 τ i0 n0
        split at h
        ·rename_i hc
         simp only[ai,a6] at hc
         obtain⟨c1,c2,c3,c4⟩:=hc
         have c2:=aa c2
         have c3:=eV c3
         have hinfo:(P.info? e).map (fun i=>(i.zero,i.size,i.bytes))=some (some z,1,i.bytes):=by rw[hi,bG,hz,hs]
         obtain⟨i1,i2⟩:=H5 s.ln c1
         obtain⟨e1,_⟩:=oo hf (.box e true (.ks h0 τ i0 n0::vs)) c4
         refine .one _ (EF.buildSlice (sz:=1) (z:=z) (bt:=i.bytes) (s.cP d) (gs:=TV.er.go s.ln (.ks h0 τ i0 n0::vs)) (yi hv) (by rw[cR,a5,bN,c2]) hu hinfo (by omega) (by omega) i1 (gk hf)) ?_ ((hl.add _ hf).put _ _) ⟨rfl,rfl,rfl⟩ h
         rw[fB,e1,i2]
         show Gh _ ⟨(d,.aO (s.cP d) 1 (0*1) n)::s.er.fr,_,_⟩
         exact Gh.Sr
        ·cases h
       ·cases h
      ·cases h
     ·cases h
    ·cases h
   ·cases h
  ·cases h
 ·cases h
end
end
end Go.DN
/-
 DN,part L:regions.
-/
namespace Go.DN
open Go.AM
section
variable {S:eB}
def vC (s:ah S) (c:Call):Bool:=
 match c.callee with
 | .value x=>match cm s x with
  | some (.cq _)=>true
  | _=>false
 | _=>false
def Qi (s:ah S):Op→Option Call
 | .call c=>match vC s c with
  | true=>some c
  | false=>none
 | _=>none
def PW (s:ah S):List (Nat×Operand)→Bool
 | [(_,x)]=>match cm s x with
  | some (.aO h τ)=>match τ.fV with
   | true=>match aw s.st h with
    | some (.aT _ m _ _ _)=>m
    | _=>false
   | false=>false
  | _=>false
 | _=>false
def Cy (s:ah S):List Operand→List Nat
 | []=>[]
 | x::r=>match cm s x with
  | some (.aO h _)=>match Hf s h with
   | true=>h::Cy s r
   | false=>Cy s r
  | _=>Cy s r
def Pa (s:ah S) (x:Operand):Bool:=match cm s x with
 | some (.loc h off)=>match aw s.st h with
  | some (.box _ _ cs)=>match cs[off]? with
   | some (.sub _ _ _ _)=>true
   | _=>false
  | _=>false
 | _=>false
noncomputable def MC (P:Program) (ok:Nat→Bool){A:Type}(cl:ah S→Option Nat→Call→(ah S→Option A)→Option A) (s:ah S) (dst:Option Nat) (op:Op) (k:ah S→Option A):Option A:=
 match dst with
 | some d=>match op with
  | .box t x=>Oo s d t x k
  | .alloc t=>H2 P s d t k
  | .makeSlice t x y=>match PI S P t with
   | true=>Di P s d t x y k
   | false=>Cc P s d t x y k
  | .load t x=>C4 P ok s d t x k
  | .makeMap t n=>GJ P s d t n k
  | .buildSlice t n parts=>match S.dG&&PW s parts.toList with
   | true=>DB P ok s d t n parts k
   | false=>match RJ s parts.toList with
    | true=>KS P s d t n parts k
    | false=>match pM (J0 s (parts.toList.map (·.2))) s with
    | some s'=>On P s' d t n parts k
    | none=>none
  | .binOp op t x y _=>Nr P s d op t x y k
  | .call c=>match c.callee with
   | .builtin .append=>match c.args.toList with
    | x::r=>match QV s (x::r) with
     | true=>HZ P ok s d c k
     | false=>match NH s (x::r) with
      | true=>Dl P ok s d c k
      | false=>match Cy s [x] with
      | []=>match pM (Cy s r) s with
       | some s=>xR s x fun s'=>Oz P ok s' d c k
       | none=>none
      | _=>DC P ok s d c k
    | []=>none
   | .builtin .copy=>KN P ok s d c k
   | .value _=>match vC s c with
    | true=>none
    | false=>cl s (some d) c k
   | _=>none
  | _=>none
 | none=>match op with
  | .store t x y=>match cm s x with
   | some (.gF h _ _ _)=>match Hf s h with
    | true=>match Hc s h with
     | true=>F6 P ok s t x y k
     | false=>Hu P ok s t x y k
    | false=>match pM (J0 s [y]) s with
     | some s'=>xU P ok s' t x y k
     | none=>none
   | _=>match PK s x with
    | true=>GR P ok s t x y k
    | false=>match Pa s x with
     | true=>xU P ok s t x y k
     | false=>xR s y fun s'=>xU P ok s' t x y k
  | .mapUpdate t x y z=>Dj P ok s t x y z k
  | .call c=>match c.callee with
   | .builtin .clear=>HP P ok s c k
   | .value _=>match vC s c with
    | true=>none
    | false=>cl s none c k
   | _=>none
  | _=>none
def He:Op→Bool
 | .box _ _=>true
 | .alloc _=>true
 | .makeSlice _ _ _=>true
 | .buildSlice _ _ _=>true
 | .store _ _ _=>true
 | .makeMap _ _=>true
 | .mapUpdate _ _ _ _=>true
 | .binOp op _ _ y _=>match op with
  | .eql=>match y with
   | .const (.slice none 0 0)=>true
   | _=>false
  | .neq=>match y with
   | .const (.slice none 0 0)=>true
   | _=>false
  | _=>false
 | .call c=>match c.callee with
  | .builtin .append=>true
  | .builtin .copy=>true
  | .builtin .clear=>true
  | .value _=>true
  | _=>false
 | _=>false
def Hd:Op→Bool
 | .load _ _=>true
 | .lookup _ _ _ _=>true
 | _=>false
def pR (N:Nat):Option Nat→Bool
 | some d=>Nat.blt d N
 | none=>true
def Kw (s:ah S) (op:Op):Bool:=He op||Dr s op
noncomputable def LO (P:Program) (N:Nat) (ok:Nat→Bool){A:Type}(cl:ah S→Option Nat→Call→(ah S→Option A)→Option A) (s:ah S) (o:Oper) (k:ah S→Option A):Option A:=
 match pR N o.dst with
 | true=>match Kw s o.op with
  | true=>MC P ok cl s o.dst o.op k
  | false=>match o.dst with
   | some d=>match Hd o.op with
    | true=>Ip P [] s o.op fun v=>k (s.put d v)
    | false=>LM P s o.op fun v x=>k (s.AE d v x)
   | none=>none
 | false=>none
def nt (N:Nat) (s:ah S) (o:Oper):Option (ah S):=
 match o.dst with
 | some d=>match Nat.blt d N with
  | true=>some (s.put d (.bj []))
  | false=>none
 | none=>some {s with fr:=s.fr}
noncomputable def pp (P:Program) (N:Nat) (ok:Nat→Bool) (ops:List Oper){A:Type}(cl:ah S→Option Nat→Call→(ah S→Option A)→Option A):List Oper→ah S→(ah S→Option A)→Option A
 | [],s,k=>k s
 | o::r,s,k=>match o.guard with
  | none=>match Qi s o.op with
   | some c=>cl s o.dst c fun s'=>pp P N ok ops cl r s' k
   | none=>LO P N ok cl s o fun s'=>pp P N ok ops cl r s' k
  | some (j,want)=>match ops[j]? with
   | some oj=>match oj.dst with
    | some d=>match bc s.bW d with
     | some (.af _ .bool b)=>match want with
      | true=>cond b (LO P N ok cl (s.put d (.af true .bool true)) o fun s'=>pp P N ok ops cl r s' k)
       (match nt N (s.put d (.af true .bool false)) o with | some s'=>pp P N ok ops cl r s' k | none=>none)
      | false=>cond b (match nt N (s.put d (.af true .bool true)) o with | some s'=>pp P N ok ops cl r s' k | none=>none)
       (LO P N ok cl (s.put d (.af true .bool false)) o fun s'=>pp P N ok ops cl r s' k)
     | some (.bj [])=>match nt N s o with
      | some s'=>pp P N ok ops cl r s' k
      | none=>none
     | _=>none
    | none=>none
   | none=>none
section
variable {P:Program}{N:Nat}{cx:Cx}{Q:Exit→St→Prop}{W:List Nat}{ok:Nat→Bool}{A:Type}{cl:ah S→Option Nat→Call→(ah S→Option A)→Option A}{r:A}
def K1 (P:Program) (W:List Nat) (s:ah S) (o:Oper){A:Type}(k:ah S→Option A) (kp:List PanicEntry→ah S→Option A) (r:A):Prop:=
 ∃(T:St→Prop) (Tp:List PanicEntry→St→Prop),li P W s.er o T Tp∧(∀s',T s'→∃t:ah S,Gh s' t.er∧aY t∧bz s t∧k t=some r)∧∀ch s',Tp ch s'→∃t:ah S,Gh s' t.er∧aY t∧bz s t∧kp ch t=some r
theorem fx.p {s:ah S}{o:Oper}{k:ah S→Option A}{kp:List PanicEntry→ah S→Option A}(h:fx P W s o k r):K1 P W s o k kp r:=
 let ⟨T,h1,h2⟩:=h
 ⟨T,_,h1.p,h2,fun _ _ h=>h.elim⟩
theorem li.tell {s:St}{o:Oper}{T:St→Prop}{Tp Tp':List PanicEntry→St→Prop}(h:li P W s o T Tp) (ht:∀ch s',Tp ch s'→∃t,Gh s' t∧Tp' ch t):li P W s o T Tp':=
 ⟨h.1,fun N cx μ a w hr hN K Q hK hp=>h.2 N cx μ a w hr hN K Q hK fun ch μ' s' w' hr' hT=>by
  obtain⟨t,h1,h2⟩:=ht ch s' hT
  obtain⟨μ2,h3,_⟩:=h1 N cx μ' a w' hr'
  exact hp ch μ2 t w' h3 h2⟩
def ze (P:Program) (N:Nat) (W:List Nat){A:Type}(cl:ah S→Option Nat→Call→(ah S→Option A)→Option A) (kp:List PanicEntry→ah S→Option A) (r:A):Prop:=
 ∀(s:ah S) (dst:Option Nat) (c:Call) (k:ah S→Option A),aY s→vC s c=false→cl s dst c k=some r→∀(ty:TypeId) (pos:String) (after:Array Edge) (guard:Option (Nat×Bool)),K1 P W s ⟨dst,.call c,ty,pos,after,guard⟩ k kp r
def Fk (P:Program) (N:Nat) (W:List Nat){A:Type}(cl:ah S→Option Nat→Call→(ah S→Option A)→Option A) (r:A):Prop:=
 ∀(s:ah S) (dst:Option Nat) (c:Call) (k:ah S→Option A),aY s→vC s c=false→cl s dst c k=some r→∀(ty:TypeId) (pos:String) (after:Array Edge) (guard:Option (Nat×Bool)),fx P W s ⟨dst,.call c,ty,pos,after,guard⟩ k r
theorem Fk.p {kp:List PanicEntry→ah S→Option A}(h:Fk P N W cl r):ze P N W cl kp r:=fun s dst c k a b d ty pos after guard=>(h s dst c k a b d ty pos after guard).p
def OD (P:Program) (N:Nat){A:Type}(cl:ah S→Option Nat→Call→(ah S→Option A)→Option A) (r:A):Prop:=
 ∀(cx:Cx) (s:ah S) (dst:Option Nat) (c:Call) (k:ah S→Option A),aY s→vC s c=true→cl s dst c k=some r→∀(ty:TypeId) (pos:String) (after:Array Edge) (ops:Array Oper) (rest:List Oper) (Q:Exit→St→Prop),
  (∀t:ah S,aY t→bz s t→k t=some r→GL P N cx ops Q rest t.er)→GL P N cx ops Q (⟨dst,.call c,ty,pos,after,none⟩::rest) s.er
theorem MY {s:ah S}{op:Op}{c:Call}(h:Qi s op=some c):op=.call c∧vC s c=true:=by
 unfold Qi at h
 split at h
 ·split at h
  ·rename_i hy;cases h;exact⟨rfl,hy⟩
  ·cases h
 ·cases h
theorem HD (hokW:∀h,ok h=true→W.contains h=true){kp:List PanicEntry→ah S→Option A}(hcl:ze P N W cl kp r){s:ah S}{o:Oper}{k:ah S→Option A}(hl:aY s) (h:MC P ok cl s o.dst o.op k=some r):K1 P W s o k kp r:=by
 obtain⟨dst,op,ty,pos,after,guard⟩:=o
 unfold MC at h
 dsimp only at h
 split at h
 ·split at h
  ·exact(Qa hl h).p
  ·exact(MR hl h).p
  ·split at h
   ·exact(J8 hl h).p
   ·exact(Nv hl h).p
  ·exact(JN hokW hl h).p
  ·exact(L1 hl h).p
  ·split at h
   ·exact(KH hokW hl h).p
   ·split at h
    ·exact(Om hl h).p
    ·split at h
     ·rename_i s' hz
      obtain⟨a1,a2,a3⟩:=lO hl hz
      exact(fx.gh a1 a3 (P9 a2 h)).p
     ·cases h
  ·exact(PD hl h).p
  ·rename_i c
   obtain⟨cal,args,ts⟩:=c
   dsimp only at h
   split at h
   ·split at h
    ·split at h
     ·exact(MQ hokW hl h).p
     ·split at h
      ·exact(Ka hokW hl h).p
      ·split at h
       ·split at h
        ·rename_i s1 hz
         obtain⟨b1,b2,b3⟩:=lO hl hz
         obtain⟨t,a1,a2,a3,a4⟩:=xQ b2 h
         exact(fx.gh b1 b3 (fx.gh a1 a3 (Qe hokW a2 a4))).p
        ·cases h
       ·exact(KI hokW hl h).p
    ·cases h
   ·exact(Od hokW hl h).p
   ·split at h
    ·cases h
    ·rename_i hy;exact hcl _ _ _ _ hl hy h _ _ _ _
   ·cases h
  ·cases h
 ·split at h
  ·split at h
   ·split at h
    ·split at h
     ·exact(LC hokW hl h).p
     ·exact(Mw hokW hl h).p
    ·split at h
     ·rename_i s' hz
      obtain⟨a1,a2,a3⟩:=lO hl hz
      exact(fx.gh a1 a3 (xT hokW a2 h)).p
     ·cases h
   ·split at h
    ·exact(L3 hokW hl h).p
    ·split at h
     ·exact(xT hokW hl h).p
     ·obtain⟨t,a1,a2,a3,a4⟩:=xQ hl h
      exact(fx.gh a1 a3 (xT hokW a2 a4)).p
  ·exact(J9 hokW hl h).p
  ·rename_i c
   obtain⟨cal,args,ts⟩:=c
   dsimp only at h
   split at h
   ·exact(MI hokW hl h).p
   ·split at h
    ·cases h
    ·rename_i hy;exact hcl _ _ _ _ hl hy h _ _ _ _
   ·cases h
  ·cases h
theorem Gu (hokW:∀h,ok h=true→W.contains h=true){kp:List PanicEntry→ah S→Option A}(hcl:ze P N W cl kp r){s:ah S}{ops:Array Oper}{rest:List Oper}{o:Oper}{k:ah S→Option A}(hl:aY s) (hw:cV ops s.er o.guard=some true)
  (h:LO P N ok cl s o k=some r) (hk:∀t:ah S,aY t→bz s t→k t=some r→GL P N cx ops Q rest t.er)
  (hkp:∀ch (t:ah S),aY t→bz s t→kp ch t=some r→∃u,Gh t.er u∧Q (.panic ch) u):GL P N cx ops Q (o::rest) s.er:=by
 unfold LO at h
 split at h
 ·rename_i hd
  split at h
  ·obtain⟨T,Tp,he,hT,hTp⟩:=HD hokW hcl hl h
   refine GL.P0 (Tp:=fun ch u=>Q (.panic ch) u) hw (fun d e=>?_) (li.tell he fun ch s' ht=>?_) (fun s' ht=>?_) fun _ _ h=>h
   ·rw[e] at hd;simpa[pR,fS] using hd
   ·obtain⟨t,h1,h2,h3,h4⟩:=hTp ch s' ht
    obtain⟨u,h5,h6⟩:=hkp ch t h2 h3 h4
    exact⟨u,h1.trans h5,h6⟩
   ·obtain⟨t,h1,h2,h3,h4⟩:=hT s' ht
    exact GL.gh h1 (hk t h2 h3 h4)
  ·split at h
   ·rename_i d e
    obtain⟨dst,op,ty,pos,after,guard⟩:=o
    dsimp only at e h hd
    subst e
    have hN:d<N:=by simpa[pR,fS] using hd
    split at h
    ·obtain⟨v,h1,h2⟩:=Bs (dst:=some d) (ty:=ty) (pos:=pos) (after:=after) (guard:=guard) hl h
     exact GL.yield hw rfl hN h1 (hk _ (hl.put d v) ⟨rfl,rfl,rfl⟩ h2)
    ·obtain⟨v,x,h1,h2,h3⟩:=Gg (dst:=some d) (ty:=ty) (pos:=pos) (after:=after) (guard:=guard) h
     refine GL.yield hw rfl hN (h1.yield []) ?_
     rw[←C9 s d v x]
     exact hk _ (C8 hl d h2) (rB s d v x) h3
   ·cases h
 ·cases h
theorem Ay {s t:ah S}{ops:Array Oper}{rest:List Oper}{o:Oper}(hl:aY s) (hw:cV ops s.er o.guard=some false) (h:nt N s o=some t) (hk:aY t→bz s t→GL P N cx ops Q rest t.er):GL P N cx ops Q (o::rest) s.er:=by
 unfold nt at h
 obtain⟨dst,op,ty,pos,after,guard⟩:=o
 dsimp only at h
 split at h
 ·split at h
  ·rename_i hN
   cases h
   exact GL.Ss hw hN (hk (hl.put _ _) ⟨rfl,rfl,rfl⟩)
  ·cases h
 ·cases h
  refine GL.pass hw ?_
  exact hk hl ⟨rfl,rfl,rfl⟩
theorem ud {ops:List Oper}{s:ah S}{j d:Nat}{want b:Bool}{oj:Oper}(h1:ops[j]?=some oj) (h2:oj.dst=some d) (h3:bc s.bW d=some (.af true .bool b)):cV ops.toArray s.er (some (j,want))=some (b==want):=by
 have:get s.er.fr d=some (.val (.bool b)):=by rw[show get s.er.fr d=_ from eZ h3];exact congrArg some (fX true b)
 simp[cV,h1,h2,this]
theorem K5 {ops:List Oper}{s:ah S}{j d:Nat}{want:Bool}{oj:Oper}(h1:ops[j]?=some oj) (h2:oj.dst=some d) (h3:bc s.bW d=some (.bj [])):cV ops.toArray s.er (some (j,want))=some false:=by
 have:get s.er.fr d=some (.bj []):=by rw[show get s.er.fr d=_ from eZ h3];rfl
 simp[cV,h1,h2,this]
theorem Cd {s:ah S}{ops:Array Oper}{rest:List Oper}{d:Nat}{f b v:Bool}(h:bc s.bW d=some (.af f .bool b)) (hb:b=v) (hk:GL P N cx ops Q rest (s.put d (.af true .bool v)).er):GL P N cx ops Q rest s.er:=by
 refine GL.lit d (b:=b) (v:=v) ?_ hb ?_
 ·rw[show get s.er.fr d=_ from eZ h];exact congrArg some (fX f b)
 ·rw[fB] at hk
  have e:(TV.af true .bool v:TV S).er s.ln=.val (.bool v):=fX true v
  rw[e] at hk
  exact hk
theorem oV (hokW:∀h,ok h=true→W.contains h=true){kp:List PanicEntry→ah S→Option A}(hcl:ze P N W cl kp r) (hyl:OD P N cl r){ops:List Oper}:∀{rest:List Oper}{s:ah S}{k:ah S→Option A},aY s→pp P N ok ops cl rest s k=some r→
  (∀t:ah S,aY t→bz s t→k t=some r→Q .normal t.er)→(∀ch (t:ah S),aY t→bz s t→kp ch t=some r→∃u,Gh t.er u∧Q (.panic ch) u)→GL P N cx ops.toArray Q rest s.er
 | [],s,k,hl,h,hk,_=>GL.nil (hk s hl (bz.refl s) h)
 | o::rest,s,k,hl,h,hk,hkp=>by
  simp only[pp] at h
  split at h
  ·rename_i hg
   split at h
   ·rename_i c hc
    obtain⟨e1,e2⟩:=MY hc
    obtain⟨dst,op,ty,pos,after,guard⟩:=o
    dsimp only at hg e1 h
    subst hg;subst e1
    exact hyl cx s dst c _ hl e2 h ty pos after _ _ _ fun t hl' hkp' h'=>oV hokW hcl hyl hl' h' (fun t2 a1 a2 a3=>hk t2 a1 (bz.trans ⟨hkp'.lo,hkp'.bL,hkp'.df⟩ a2) a3) fun ch t2 a1 a2 a3=>hkp ch t2 a1 (bz.trans ⟨hkp'.lo,hkp'.bL,hkp'.df⟩ a2) a3
   exact Gu hokW hcl hl (by rw[hg];rfl) h (fun t hl' hkp' h'=>oV hokW hcl hyl hl' h' (fun t2 a1 a2 a3=>hk t2 a1 (bz.trans ⟨hkp'.lo,hkp'.bL,hkp'.df⟩ a2) a3) fun ch t2 a1 a2 a3=>hkp ch t2 a1 (bz.trans ⟨hkp'.lo,hkp'.bL,hkp'.df⟩ a2) a3) hkp
  ·rename_i j want hg
   split at h
   ·rename_i oj hj
    split at h
    ·rename_i d hd
     split at h
     ·rename_i f b hb
      have hlt:=fun v=>aY.put hl d (.af true .bool v:TV S)
      have ht:∀v,bc (s.put d (.af true .bool v)).bW d=some (.af true .bool v):=fun v=>by simp only[ah.put,ah.bW,bx,bc,aG,cond_true]
      split at h
      ·cases hbv:b with
       | true=>
        rw[hbv] at h
        refine Cd hb hbv (Gu hokW hcl (hlt true) ?_ h (fun t hl' hkp' h'=>oV hokW hcl hyl hl' h' (fun t2 a1 a2 a3=>hk t2 a1 (bz.trans ⟨hkp'.lo,hkp'.bL,hkp'.df⟩ a2) a3) fun ch t2 a1 a2 a3=>hkp ch t2 a1 (bz.trans ⟨hkp'.lo,hkp'.bL,hkp'.df⟩ a2) a3) fun ch t2 a1 a2 a3=>hkp ch t2 a1 ⟨a2.lo,a2.bL,a2.df⟩ a3)
        rw[hg,ud hj hd (ht true)];rfl
       | false=>
        rw[hbv] at h
        dsimp only[cond_false] at h
        refine Cd hb hbv ?_
        split at h
        ·rename_i s' hs
         exact Ay (hlt false) (by rw[hg,ud hj hd (ht false)];rfl) hs fun hl' hkp'=>oV hokW hcl hyl hl' h (fun t2 a1 a2 a3=>hk t2 a1 (bz.trans ⟨hkp'.lo,hkp'.bL,hkp'.df⟩ a2) a3) fun ch t2 a1 a2 a3=>hkp ch t2 a1 (bz.trans ⟨hkp'.lo,hkp'.bL,hkp'.df⟩ a2) a3
        ·cases h
      ·cases hbv:b with
       | true=>
        rw[hbv] at h
        dsimp only[cond_true] at h
        refine Cd hb hbv ?_
        split at h
        ·rename_i s' hs
         exact Ay (hlt true) (by rw[hg,ud hj hd (ht true)];rfl) hs fun hl' hkp'=>oV hokW hcl hyl hl' h (fun t2 a1 a2 a3=>hk t2 a1 (bz.trans ⟨hkp'.lo,hkp'.bL,hkp'.df⟩ a2) a3) fun ch t2 a1 a2 a3=>hkp ch t2 a1 (bz.trans ⟨hkp'.lo,hkp'.bL,hkp'.df⟩ a2) a3
        ·cases h
       | false=>
        rw[hbv] at h
        refine Cd hb hbv (Gu hokW hcl (hlt false) ?_ h (fun t hl' hkp' h'=>oV hokW hcl hyl hl' h' (fun t2 a1 a2 a3=>hk t2 a1 (bz.trans ⟨hkp'.lo,hkp'.bL,hkp'.df⟩ a2) a3) fun ch t2 a1 a2 a3=>hkp ch t2 a1 (bz.trans ⟨hkp'.lo,hkp'.bL,hkp'.df⟩ a2) a3) fun ch t2 a1 a2 a3=>hkp ch t2 a1 ⟨a2.lo,a2.bL,a2.df⟩ a3)
        rw[hg,ud hj hd (ht false)];rfl
     ·rename_i hb
      split at h
      ·rename_i s' hs
       exact Ay hl (by rw[hg,K5 hj hd hb]) hs fun hl' hkp'=>oV hokW hcl hyl hl' h (fun t2 a1 a2 a3=>hk t2 a1 (bz.trans ⟨hkp'.lo,hkp'.bL,hkp'.df⟩ a2) a3) fun ch t2 a1 a2 a3=>hkp ch t2 a1 (bz.trans ⟨hkp'.lo,hkp'.bL,hkp'.df⟩ a2) a3
      ·cases h
     ·cases h
    ·cases h
   ·cases h
end
end
end Go.DN
/-
 DN,part M:regions that draw their order.
-/
namespace Go.DN
open Go.AM
section
variable {S:eB}
def py (s:ah S):List Operand→Bool
 | []=>false
 | x::r=>match cm s x with
  | some (.bj [])=>true
  | _=>py s r
def calm (W:List Nat) (s:ah S) (o:Oper):Bool:=
 match o.op with
 | .load _ x=>match cm s x with
  | some (.ptr _ _ _)=>true
  | some (.loc h _)=>!(W.contains h)
  | some (.gF h _ _ _)=>!(W.contains h)
  | some (.bj [])=>true
  | _=>false
 | .call c=>match He (.call c) with
  | true=>py s c.args.toList
  | false=>true
 | .binOp op t x y t'=>match He (.binOp op t x y t') with
  | true=>py s [x]
  | false=>true
 | .lookup _ _ _ _=>false
 | op=>!(He op)
def off (s:ah S) (o:Oper):Bool:=
 match o.op with
 | .load _ x=>py s [x]
 | .call c=>py s c.args.toList
 | .binOp _ _ x _ _=>py s [x]
 | _=>false
def pick (f:Oper→Bool) (ops:Array Oper) (listed:Array Bool):List Nat→Option (Nat×Oper)
 | []=>none
 | i::r=>match ops[i]? with
  | some o=>match f o&&Region.free .any ops listed i with
   | true=>some (i,o)
   | false=>pick f ops listed r
  | none=>pick f ops listed r
theorem qs {f:Oper→Bool}{ops:Array Oper}{listed:Array Bool}:∀{l:List Nat}{i:Nat}{o:Oper},pick f ops listed l=some (i,o)→i∈l∧ops[i]?=some o∧f o=true∧Region.free .any ops listed i=true
 | [],_,_,h=>by cases h
 | j::r,i,o,h=>by
  simp only[pick] at h
  split at h
  ·rename_i o' ho
   split at h
   ·rename_i hc
    cases h
    simp only[ai] at hc
    exact⟨av,ho,hc.1,hc.2⟩
   ·obtain⟨h1,h2⟩:=qs h
    exact⟨ao _ h1,h2⟩
  ·obtain⟨h1,h2⟩:=qs h
   exact⟨ao _ h1,h2⟩
def vE (N:Nat) (ops:Array Oper) (s:ah S) (o:Oper){A:Type}(run:ah S→Option A) (skip:ah S→Option A):Option A:=
 match o.guard with
 | none=>run s
 | some (j,want)=>match ops[j]? with
  | some oj=>match oj.dst with
   | some d=>match bc s.bW d with
    | some (.af _ .bool b)=>match want with
     | true=>cond b (run (s.put d (.af true .bool true))) (match nt N (s.put d (.af true .bool false)) o with | some s'=>skip s' | none=>none)
     | false=>cond b (match nt N (s.put d (.af true .bool true)) o with | some s'=>skip s' | none=>none) (run (s.put d (.af true .bool false)))
    | some (.bj [])=>match nt N s o with
     | some s'=>skip s'
     | none=>none
    | _=>none
   | none=>none
  | none=>none
open Classical in
noncomputable def tT {A:Type}(x y:Option A):Option A:=if x=y then x else none
theorem OA {A:Type}{x y:Option A}{r:A}(h:tT x y=some r):x=some r∧y=some r:=by
 unfold tT at h
 split at h
 ·rename_i e
  exact⟨h,e▸h⟩
 ·cases h
theorem tS {A:Type}(x:Option A):tT x x=x:=by unfold tT;simp
noncomputable def u7 {A:Type}(x:Option A):Option A:=tT x x
theorem rN {A:Type}(x:Option A):u7 x=x:=tS x
noncomputable def OB {A:Type}:List (Option A)→Option A
 | []=>none
 | [x]=>x
 | x::r=>tT x (OB r)
theorem EM {A:Type}:∀{l:List (Option A)}{r:A},OB l=some r→∀x∈l,x=some r
 | [],_,h,x,hx=>by cases hx
 | [y],r,h,x,hx=>by simp at hx;subst hx;exact h
 | y::z::l,r,h,x,hx=>by
  obtain⟨h1,h2⟩:=OA h
  rcases aX.1 hx with e | hx
  ·subst e;exact h1
  ·exact EM h2 x hx
def G6 (ops:Array Oper) (s:ah S) (o:Oper):Bool:=
 match o.guard with
 | none=>true
 | some (j,want)=>match ops[j]? with
  | some oj=>match oj.dst with
   | some d=>match bc s.bW d with
    | some (.af _ .bool b)=>match b with
     | true=>want
     | false=>!want
    | _=>false
   | none=>false
  | none=>false
theorem Mc {ops:Array Oper}{s:ah S}{o:Oper}(h:G6 ops s o=true):cV ops s.er o.guard=some true:=by
 unfold G6 at h
 split at h
 ·rename_i hg;rw[hg];rfl
 ·rename_i j want hg
  rw[hg]
  split at h
  ·rename_i oj hj
   split at h
   ·rename_i d hd
    split at h
    ·rename_i f b hb
     have:get s.er.fr d=some (.val (.bool b)):=by rw[show get s.er.fr d=_ from eZ hb];exact congrArg some (fX f b)
     have hw:cV ops s.er (some (j,want))=some (b==want):=by simp[cV,hj,hd,this]
     rw[hw]
     cases b <;> cases want <;> first | rfl | cases h
    ·cases h
   ·cases h
  ·cases h
def oa (ops:Array Oper){A:Type}:List Nat→ah S→(ah S→Option A)→Option A
 | [],s,k=>k s
 | i::r,s,k=>match ops[i]? with
  | some o=>match o.guard with
   | some (j,_)=>match ops[j]? with
    | some oj=>match oj.dst with
     | some d=>match bc s.bW d with
      | some (.af _ .bool b)=>cond b (oa ops r (s.put d (.af true .bool true)) k) (oa ops r (s.put d (.af true .bool false)) k)
      | _=>oa ops r s k
     | none=>oa ops r s k
    | none=>oa ops r s k
   | none=>oa ops r s k
  | none=>oa ops r s k
def Nq (ops:Array Oper) (s:ah S) (o:Oper):Bool:=
 match o.guard with
 | none=>false
 | some (j,want)=>match ops[j]? with
  | some oj=>match oj.dst with
   | some d=>match bc s.bW d with
    | some (.af _ .bool b)=>match b with
     | true=>!want
     | false=>want
    | some (.bj [])=>true
    | _=>false
   | none=>false
  | none=>false
noncomputable def kK (P:Program) (N:Nat) (ok:Nat→Bool) (ops:Array Oper){A:Type}(cl:ah S→Option Nat→Call→(ah S→Option A)→Option A):Nat→Array Bool→ah S→(ah S→Option A)→Option A
 | 0,listed,s,k=>match Region.ready .any ops listed with
  | []=>k s
  | _=>none
 | aI+1,listed,s,k=>match Region.ready .any ops listed with
  | []=>k s
  | i0::rs=>match pick (fun o=>pR N o.dst&&((!(Hd o.op)&&!(He o.op))||off s o)&&o.dst.isSome) ops listed (i0::rs) with
   | some (i,o)=>vE N ops s o (fun s'=>match o.dst with
     | some d=>LM P s' o.op fun v x=>kK P N ok ops cl aI (listed.setIfInBounds i true) (s'.AE d v x) k
     | none=>none) (fun s'=>kK P N ok ops cl aI (listed.setIfInBounds i true) s' k)
   | none=>match rs with
    | []=>match ops[i0]? with
     | some o=>match pR N o.dst with
      | true=>match o.dst,Hd o.op&&!(Dr s o.op) with
       | some d,true=>vE N ops s o (fun s'=>Ip P [] s' o.op fun v=>kK P N ok ops cl aI (listed.setIfInBounds i0 true) (s'.put d v) k) (fun s'=>match Region.free .any ops listed i0 with
        | true=>kK P N ok ops cl aI (listed.setIfInBounds i0 true) s' k
        | false=>none)
       | _,_=>match Kw s o.op with
        | true=>vE N ops s o (fun s'=>MC P ok cl s' o.dst o.op fun s2=>kK P N ok ops cl aI (listed.setIfInBounds i0 true) s2 k) (fun s'=>match Region.free .any ops listed i0 with
         | true=>kK P N ok ops cl aI (listed.setIfInBounds i0 true) s' k
         | false=>none)
        | false=>none
      | false=>none
     | none=>none
    | _=>oa ops (i0::rs) s fun s=>match pick (fun o=>pR N o.dst&&Nq ops s o&&o.dst.isSome) ops listed (i0::rs) with
     | some (i,o)=>match nt N s o with
      | some s'=>kK P N ok ops cl aI (listed.setIfInBounds i true) s' k
      | none=>none
     | none=>OB ((i0::rs).map fun i=>match ops[i]? with
      | some o=>match pR N o.dst&&G6 ops s o with
       | true=>match o.dst,Hd o.op&&!(Dr s o.op) with
        | some d,true=>Ip P [] s o.op fun v=>kK P N ok ops cl aI (listed.setIfInBounds i true) (s.put d v) k
        | _,_=>match Kw s o.op with
         | true=>MC P ok cl s o.dst o.op fun s2=>kK P N ok ops cl aI (listed.setIfInBounds i true) s2 k
         | false=>none
       | false=>none
      | none=>none)
noncomputable def vG (P:Program) (N:Nat) (ok:Nat→Bool) (W:List Nat) (ops:Array Oper){A:Type}(cl:ah S→Option Nat→Call→(ah S→Option A)→Option A):Nat→Array Bool→ah S→(ah S→Option A)→Option A
 | 0,listed,s,k=>kK P N ok ops cl 0 listed s k
 | aI+1,listed,s,k=>match pick (fun o=>pR N o.dst&&calm W s o&&o.dst.isSome) ops listed (Region.ready .any ops listed) with
  | some (i,o)=>vE N ops s o (fun s'=>match o.dst with
    | some d=>match Hd o.op with
     | true=>Ip P W s' o.op fun v=>vG P N ok W ops cl aI (listed.setIfInBounds i true) (s'.put d v) k
     | false=>LM P s' o.op fun v x=>vG P N ok W ops cl aI (listed.setIfInBounds i true) (s'.AE d v x) k
    | none=>none) (fun s'=>vG P N ok W ops cl aI (listed.setIfInBounds i true) s' k)
  | none=>kK P N ok ops cl (aI+1) listed s k
noncomputable def uM (P:Program) (N:Nat) (ok:Nat→Bool) (W:List Nat) (ops:Array Oper){A:Type}(cl:ah S→Option Nat→Call→(ah S→Option A)→Option A) (s:ah S) (k:ah S→Option A):Option A:=
 match Region.noSelect ops&&qA ops.toList with
 | true=>vG P N ok W ops cl ops.size (Array.replicate ops.size false) s k
 | false=>none
section
variable {P:Program}{N:Nat}{cx:Cx}{Q:Exit→St→Prop}{W:List Nat}{ok:Nat→Bool}{A:Type}{cl:ah S→Option Nat→Call→(ah S→Option A)→Option A}{r:A}{ops:Array Oper}
theorem sq {s:ah S}{j d:Nat}{want b:Bool}{oj:Oper}(h1:ops[j]?=some oj) (h2:oj.dst=some d) (h3:bc s.bW d=some (.af true .bool b)):cV ops s.er (some (j,want))=some (b==want):=by
 have:get s.er.fr d=some (.val (.bool b)):=by rw[show get s.er.fr d=_ from eZ h3];exact congrArg some (fX true b)
 simp[cV,h1,h2,this]
theorem Jt {s:ah S}{j d:Nat}{want:Bool}{oj:Oper}(h1:ops[j]?=some oj) (h2:oj.dst=some d) (h3:bc s.bW d=some (.bj [])):cV ops s.er (some (j,want))=some false:=by
 have:get s.er.fr d=some (.bj []):=by rw[show get s.er.fr d=_ from eZ h3];rfl
 simp[cV,h1,h2,this]
theorem PB {s:ah S}{o:Oper}(h:Nq ops s o=true):cV ops s.er o.guard=some false:=by
 unfold Nq at h
 split at h
 ·cases h
 ·rename_i j want hg
  rw[hg]
  split at h
  ·rename_i oj hj
   split at h
   ·rename_i d hd
    split at h
    ·rename_i f b hb
     have:get s.er.fr d=some (.val (.bool b)):=by rw[show get s.er.fr d=_ from eZ hb];exact congrArg some (fX f b)
     have hw:cV ops s.er (some (j,want))=some (b==want):=by simp[cV,hj,hd,this]
     rw[hw]
     cases b <;> cases want <;> first | rfl | cases h
    ·rename_i hb
     have:get s.er.fr d=some (.bj []):=eZ hb
     simp[cV,hj,hd,this]
    ·cases h
   ·cases h
  ·cases h
theorem lk {X:St→Prop}(hlit:∀(s:St) (t:Nat) (b v:Bool),get s.fr t=some (.val (.bool b))→b=v→X {fr:=(t,.val (.bool v))::s.fr,st:=s.st,df:=s.df}→X s):∀{l:List Nat}{s:ah S}{k:ah S→Option A},aY s→oa ops l s k=some r→
  (∀t:ah S,aY t→bz s t→k t=some r→X t.er)→X s.er
 | [],s,k,hl,h,hk=>hk s hl (bz.refl s) h
 | i::l,s,k,hl,h,hk=>by
  have lit:∀{s:ah S}{d:Nat}{f b:Bool}(v:Bool),bc s.bW d=some (.af f .bool b)→b=v→X (s.put d (.af true .bool v)).er→X s.er:=by
   intro s d f b v hb e hX
   refine hlit _ d b v ?_ e ?_
   ·rw[show get s.er.fr d=_ from eZ hb];exact congrArg some (fX f b)
   ·rw[fB] at hX
    have e2:(TV.af true .bool v:TV S).er s.ln=.val (.bool v):=fX true v
    rw[e2] at hX
    exact hX
  simp only[oa] at h
  split at h
  ·split at h
   ·split at h
    ·split at h
     ·rename_i d _
      split at h
      ·rename_i f b hb
       cases hbv:b with
       | true=>
        rw[hbv] at h
        exact lit true hb hbv (lk hlit (hl.put d _) h fun t a1 a2 a3=>hk t a1 ⟨a2.lo,a2.bL,a2.df⟩ a3)
       | false=>
        rw[hbv] at h
        exact lit false hb hbv (lk hlit (hl.put d _) h fun t a1 a2 a3=>hk t a1 ⟨a2.lo,a2.bL,a2.df⟩ a3)
      ·exact lk hlit hl h hk
     ·exact lk hlit hl h hk
    ·exact lk hlit hl h hk
   ·exact lk hlit hl h hk
  ·exact lk hlit hl h hk
theorem uC {X:St→Prop}(hlit:∀(s:St) (t:Nat) (b v:Bool),get s.fr t=some (.val (.bool b))→b=v→X {fr:=(t,.val (.bool v))::s.fr,st:=s.st,df:=s.df}→X s)
  {s:ah S}{o:Oper}{run skip:ah S→Option A}(hl:aY s) (h:vE N ops s o run skip=some r)
  (hrun:∀t:ah S,aY t→bz s t→cV ops t.er o.guard=some true→run t=some r→X t.er)
  (hskip:∀(t t':ah S),aY t→bz s t→cV ops t.er o.guard=some false→nt N t o=some t'→skip t'=some r→X t.er):X s.er:=by
 unfold vE at h
 have lit:∀{s:ah S}{d:Nat}{f b:Bool}(v:Bool),bc s.bW d=some (.af f .bool b)→b=v→X (s.put d (.af true .bool v)).er→X s.er:=by
  intro s d f b v hb e hX
  refine hlit _ d b v ?_ e ?_
  ·rw[show get s.er.fr d=_ from eZ hb];exact congrArg some (fX f b)
  ·rw[fB] at hX
   have e2:(TV.af true .bool v:TV S).er s.ln=.val (.bool v):=fX true v
   rw[e2] at hX
   exact hX
 split at h
 ·rename_i hg
  exact hrun s hl (bz.refl s) (by rw[hg];rfl) h
 ·rename_i j want hg
  split at h
  ·rename_i oj hj
   split at h
   ·rename_i d hd
    split at h
    ·rename_i f b hb
     have hlt:=fun v=>aY.put hl d (.af true .bool v:TV S)
     have ht:∀v,bc (s.put d (.af true .bool v)).bW d=some (.af true .bool v):=fun v=>by simp only[ah.put,ah.bW,bx,bc,aG,cond_true]
     split at h
     ·cases hbv:b with
      | true=>
       rw[hbv] at h
       exact lit true hb hbv (hrun _ (hlt true) ⟨rfl,rfl,rfl⟩ (by rw[hg,sq hj hd (ht true)];rfl) h)
      | false=>
       rw[hbv] at h
       dsimp only[cond_false] at h
       refine lit false hb hbv ?_
       split at h
       ·rename_i s' hs
        exact hskip _ s' (hlt false) ⟨rfl,rfl,rfl⟩ (by rw[hg,sq hj hd (ht false)];rfl) hs h
       ·cases h
     ·cases hbv:b with
      | true=>
       rw[hbv] at h
       dsimp only[cond_true] at h
       refine lit true hb hbv ?_
       split at h
       ·rename_i s' hs
        exact hskip _ s' (hlt true) ⟨rfl,rfl,rfl⟩ (by rw[hg,sq hj hd (ht true)];rfl) hs h
       ·cases h
      | false=>
       rw[hbv] at h
       exact lit false hb hbv (hrun _ (hlt false) ⟨rfl,rfl,rfl⟩ (by rw[hg,sq hj hd (ht false)];rfl) h)
    ·rename_i hb
     split at h
     ·rename_i s' hs
      exact hskip _ s' hl (bz.refl s) (by rw[hg,Jt hj hd hb]) hs h
     ·cases h
    ·cases h
   ·cases h
  ·cases h
theorem pk {s t:ah S}{o:Oper}{d:Nat}(hd:o.dst=some d) (h:nt N s o=some t):d<N∧t=s.put d (.bj []):=by
 unfold nt at h
 rw[hd] at h
 dsimp only at h
 split at h
 ·rename_i hN
  cases h
  exact⟨by simpa[fS] using hN,rfl⟩
 ·cases h
theorem dO.RD {s:St}{aI:Nat}{listed:Array Bool}(i:Nat){o:Oper}(hi:ops[i]?=some o) (hs:Region.noSelect ops=true) (hf:Region.free .any ops listed i=true)
  (hr:(Region.ready .any ops listed).contains i=true) (hw:cV ops s o.guard=some false) (hd:o.dst=none)
  (h:dO P N cx ops Q W aI (listed.setIfInBounds i true) s):dO P N cx ops Q W (aI+1) listed s:=by
 intro ws Wb μ a w hrel hS hW
 refine wpAnyH_take (v:=undef) hi hs hf hr (fun c a' w' h=>(by rw[hd] at h;exact h)) (.inr ⟨dK hrel hw,rfl⟩) hS ?_
 rw[hd]
 exact h ws Wb μ _ w hrel hS hW
theorem iH (hokW:∀h,ok h=true→W.contains h=true){kp:List PanicEntry→ah S→Option A}(hcl:ze P N W cl kp r) (hs:Region.noSelect ops=true) (hpn:CO Q (qI ops)):∀{aI:Nat}{listed:Array Bool}{s:ah S}{k:ah S→Option A},aY s→kK P N ok ops cl aI listed s k=some r→
  (∀t:ah S,aY t→bz s t→k t=some r→Q .normal t.er)→(∀ch (t:ah S),aY t→bz s t→kp ch t=some r→∃u,Gh t.er u∧Q (.panic ch) u)→dO P N cx ops Q W aI listed s.er
 | 0,listed,s,k,hl,h,hk,hkp=>by
  unfold kK at h
  split at h
  ·rename_i hr
   exact dO.done hr (hk s hl (bz.refl s) h)
  ·cases h
 | aI+1,listed,s,k,hl,h,hk,hkp0=>by
  unfold kK at h
  split at h
  ·rename_i hr
   exact dO.done hr (hk s hl (bz.refl s) h)
  ·rename_i i0 rs hr
   split at h
   ·rename_i i o hp
    obtain⟨p1,p2,p3,p4⟩:=qs hp
    simp only[ai] at p3
    obtain⟨⟨q1,q2⟩,q4⟩:=p3
    have hcon:(Region.ready .any ops listed).contains i=true:=by rw[hr];exact fI.2 p1
    refine uC (X:=fun s=>dO P N cx ops Q W (aI+1) listed s) (fun s t b v h1 h2 h3=>dO.lit t h1 h2 h3) hl h (fun t hl' hkp hw h'=>?_) (fun t t' hl' hkp hw hsk h'=>?_)
    ·cases hd:o.dst with
     | none=>rw[hd] at q4;cases q4
     | some d=>
      rw[hd] at h' q1
      dsimp only at h'
      have hN:d<N:=by simpa[pR,fS] using q1
      obtain⟨v,x,h1,h2,h3⟩:=Gg (dst:=o.dst) (ty:=o.type) (pos:=o.pos) (after:=o.after) (guard:=o.guard) h'
      refine dO.take i hpn p2 hs p4 hcon hw hd hN h1 ?_
      rw[←C9 t d v x]
      exact iH hokW hcl hs hpn (C8 hl' d h2) h3 (fun t2 a1 a2 a3=>hk t2 a1 ((hkp.trans (rB t d v x)).trans a2) a3) fun ch t2 a1 a2 a3=>hkp0 ch t2 a1 ((hkp.trans (rB t d v x)).trans a2) a3
    ·cases hd:o.dst with
     | none=>rw[hd] at q4;cases q4
     | some d=>
      obtain⟨hN,e⟩:=pk hd hsk
      subst e
      exact dO.zn i hpn p2 hs p4 hcon hw hd hN (iH hokW hcl hs hpn (hl'.put _ _) h' (fun t2 a1 a2 a3=>hk t2 a1 (hkp.trans ⟨a2.lo,a2.bL,a2.df⟩) a3) fun ch t2 a1 a2 a3=>hkp0 ch t2 a1 (hkp.trans ⟨a2.lo,a2.bL,a2.df⟩) a3)
   ·split at h
    ·split at h
     ·rename_i o ho
      split at h
      ·rename_i hdN
       split at h
       ·rename_i d hd hld
        have hN:d<N:=by rw[hd] at hdN;simpa[pR,fS] using hdN
        refine uC (X:=fun s=>dO P N cx ops Q W (aI+1) listed s) (fun s t b v h1 h2 h3=>dO.lit t h1 h2 h3) hl h (fun t hl' hkp hw h'=>?_) (fun t t' hl' hkp hw hsk h'=>?_)
        ·obtain⟨v,h1,h2⟩:=Bs (dst:=o.dst) (ty:=o.type) (pos:=o.pos) (after:=o.after) (guard:=o.guard) hl' h'
         exact dO.R7 i0 hr ho hw hd hN h1 (iH hokW hcl hs hpn (hl'.put d v) h2 (fun t2 a1 a2 a3=>hk t2 a1 (hkp.trans ⟨a2.lo,a2.bL,a2.df⟩) a3) fun ch t2 a1 a2 a3=>hkp0 ch t2 a1 (hkp.trans ⟨a2.lo,a2.bL,a2.df⟩) a3)
        ·split at h'
         ·rename_i hf
          obtain⟨_,e⟩:=pk hd hsk
          subst e
          exact dO.zn i0 hpn ho hs hf (by rw[hr];simp) hw hd hN (iH hokW hcl hs hpn (hl'.put _ _) h' (fun t2 a1 a2 a3=>hk t2 a1 (hkp.trans ⟨a2.lo,a2.bL,a2.df⟩) a3) fun ch t2 a1 a2 a3=>hkp0 ch t2 a1 (hkp.trans ⟨a2.lo,a2.bL,a2.df⟩) a3)
         ·cases h'
       ·split at h
        ·refine uC (X:=fun s=>dO P N cx ops Q W (aI+1) listed s) (fun s t b v h1 h2 h3=>dO.lit t h1 h2 h3) hl h (fun t hl' hkp hw h'=>?_) (fun t t' hl' hkp hw hsk h'=>?_)
         ·obtain⟨T,Tp,h1,h2,h2p⟩:=HD hokW hcl hl' h'
          refine dO.R8 i0 hr ho hw (fun d e=>?_) (li.tell (Tp':=fun ch u=>Q (.panic ch) u) h1 fun ch s' ht=>?_) (fun s' ht=>?_) fun _ _ h=>h
          ·rw[e] at hdN;simpa[pR,fS] using hdN
          ·obtain⟨t2,g1,g2,g3,g4⟩:=h2p ch s' ht
           obtain⟨u,g5,g6⟩:=hkp0 ch t2 g2 (hkp.trans g3) g4
           exact⟨u,g1.trans g5,g6⟩
          ·obtain⟨t2,g1,g2,g3,g4⟩:=h2 s' ht
           exact dO.gh g1 (iH hokW hcl hs hpn g2 g4 (fun t3 a1 a2 a3=>hk t3 a1 ((hkp.trans g3).trans a2) a3) fun ch t3 a1 a2 a3=>hkp0 ch t3 a1 ((hkp.trans g3).trans a2) a3)
         ·split at h'
          ·rename_i hf
           cases hd:o.dst with
           | none=>
            unfold nt at hsk
            rw[hd] at hsk
            dsimp only at hsk
            cases hsk
            exact dO.RD i0 ho hs hf (by rw[hr];simp) hw hd (iH hokW hcl hs hpn hl' h' (fun t2 a1 a2 a3=>hk t2 a1 (hkp.trans ⟨a2.lo,a2.bL,a2.df⟩) a3) fun ch t2 a1 a2 a3=>hkp0 ch t2 a1 (hkp.trans ⟨a2.lo,a2.bL,a2.df⟩) a3)
           | some d=>
            obtain⟨hN,e⟩:=pk hd hsk
            subst e
            exact dO.zn i0 hpn ho hs hf (by rw[hr];simp) hw hd hN (iH hokW hcl hs hpn (hl'.put _ _) h' (fun t2 a1 a2 a3=>hk t2 a1 (hkp.trans ⟨a2.lo,a2.bL,a2.df⟩) a3) fun ch t2 a1 a2 a3=>hkp0 ch t2 a1 (hkp.trans ⟨a2.lo,a2.bL,a2.df⟩) a3)
          ·cases h'
        ·cases h
      ·cases h
     ·cases h
    ·refine lk (X:=fun s=>dO P N cx ops Q W (aI+1) listed s) (fun s t b v h1 h2 h3=>dO.lit t h1 h2 h3) hl h fun s1 hl1 hk1 h=>?_
     split at h
     ·rename_i i o hp
      obtain⟨p1,p2,p3,p4⟩:=qs hp
      simp only[ai] at p3
      obtain⟨⟨q1,q2⟩,q4⟩:=p3
      have hcon:(Region.ready .any ops listed).contains i=true:=by rw[hr];exact fI.2 p1
      split at h
      ·rename_i s' hsk
       cases hd:o.dst with
       | none=>rw[hd] at q4;cases q4
       | some d=>
        obtain⟨hN,e⟩:=pk hd hsk
        subst e
        exact dO.zn i hpn p2 hs p4 hcon (PB q2) hd hN (iH hokW hcl hs hpn (hl1.put _ _) h (fun t2 a1 a2 a3=>hk t2 a1 (hk1.trans ⟨a2.lo,a2.bL,a2.df⟩) a3) fun ch t2 a1 a2 a3=>hkp0 ch t2 a1 (hk1.trans ⟨a2.lo,a2.bL,a2.df⟩) a3)
      ·cases h
     ·have hall:=EM h
      refine dO.any i0 rs hr ?_
      have en:∀i,i∈i0::rs→tW P N cx ops Q W aI listed s1.er i:=by
       intro i hi
       have hx:=hall _ (jB hi)
       split at hx
       ·rename_i o ho
        split at hx
        ·rename_i hc
         simp only[ai] at hc
         obtain⟨hdN,hkn⟩:=hc
         have hw:=Mc hkn
         split at hx
         ·rename_i d hd hld
          have hN:d<N:=by rw[hd] at hdN;simpa[pR,fS] using hdN
          obtain⟨v,h1,h2⟩:=Bs (dst:=o.dst) (ty:=o.type) (pos:=o.pos) (after:=o.after) (guard:=o.guard) hl1 hx
          exact tW.y i ho hw hd hN h1 (iH hokW hcl hs hpn (hl1.put d v) h2 (fun t2 a1 a2 a3=>hk t2 a1 (hk1.trans ⟨a2.lo,a2.bL,a2.df⟩) a3) fun ch t2 a1 a2 a3=>hkp0 ch t2 a1 (hk1.trans ⟨a2.lo,a2.bL,a2.df⟩) a3)
         ·split at hx
          ·obtain⟨T,Tp,h1,h2,h2p⟩:=HD hokW hcl hl1 hx
           refine tW.eP i ho hw (fun d e=>?_) (li.tell (Tp':=fun ch u=>Q (.panic ch) u) h1 fun ch s' ht=>?_) (fun s' ht=>?_) fun _ _ h=>h
           ·rw[e] at hdN;simpa[pR,fS] using hdN
           ·obtain⟨t2,g1,g2,g3,g4⟩:=h2p ch s' ht
            obtain⟨u,g5,g6⟩:=hkp0 ch t2 g2 (hk1.trans g3) g4
            exact⟨u,g1.trans g5,g6⟩
           ·obtain⟨t2,g1,g2,g3,g4⟩:=h2 s' ht
            exact dO.gh g1 (iH hokW hcl hs hpn g2 g4 (fun t3 a1 a2 a3=>hk t3 a1 (hk1.trans (g3.trans a2)) a3) fun ch t3 a1 a2 a3=>hkp0 ch t3 a1 (hk1.trans (g3.trans a2)) a3)
          ·cases hx
        ·cases hx
       ·cases hx
      clear hr hall h
      generalize i0::rs=l at en
      induction l with
      | nil=>exact trivial
      | cons x r ih=>exact⟨en x av,ih fun i hi=>en i (ao _ hi)⟩
theorem uL (hokW:∀h,ok h=true→W.contains h=true){kp:List PanicEntry→ah S→Option A}(hcl:ze P N W cl kp r) (hs:Region.noSelect ops=true) (hpn:CO Q (qI ops)):∀{aI:Nat}{listed:Array Bool}{s:ah S}{k:ah S→Option A},aY s→vG P N ok W ops cl aI listed s k=some r→
  (∀t:ah S,aY t→bz s t→k t=some r→Q .normal t.er)→(∀ch (t:ah S),aY t→bz s t→kp ch t=some r→∃u,Gh t.er u∧Q (.panic ch) u)→l6 P N cx ops Q W aI listed s.er
 | 0,listed,s,k,hl,h,hk,hkp0=>l6.E8 (iH hokW hcl hs hpn hl h hk hkp0)
 | aI+1,listed,s,k,hl,h,hk,hkp0=>by
  unfold vG at h
  split at h
  ·rename_i i o hp
   obtain⟨p1,p2,p3,p4⟩:=qs hp
   simp only[ai] at p3
   obtain⟨⟨q1,q2⟩,q4⟩:=p3
   have hcon:(Region.ready .any ops listed).contains i=true:=fI.2 p1
   refine uC (X:=fun s=>l6 P N cx ops Q W (aI+1) listed s) (fun s t b v h1 h2 h3=>l6.lit t h1 h2 h3) hl h (fun t hl' hkp hw h'=>?_) (fun t t' hl' hkp hw hsk h'=>?_)
   ·cases hd:o.dst with
    | none=>rw[hd] at q4;cases q4
    | some d=>
     rw[hd] at h' q1
     dsimp only at h'
     have hN:d<N:=by simpa[pR,fS] using q1
     split at h'
     ·obtain⟨v,h1,h2⟩:=Bs (dst:=o.dst) (ty:=o.type) (pos:=o.pos) (after:=o.after) (guard:=o.guard) hl' h'
      exact l6.take i hpn p2 hs p4 hcon hw hd hN h1 (uL hokW hcl hs hpn (hl'.put d v) h2 (fun t2 a1 a2 a3=>hk t2 a1 (hkp.trans ⟨a2.lo,a2.bL,a2.df⟩) a3) fun ch t2 a1 a2 a3=>hkp0 ch t2 a1 (hkp.trans ⟨a2.lo,a2.bL,a2.df⟩) a3)
     ·obtain⟨v,x,h1,h2,h3⟩:=Gg (dst:=o.dst) (ty:=o.type) (pos:=o.pos) (after:=o.after) (guard:=o.guard) h'
      refine l6.take i hpn p2 hs p4 hcon hw hd hN (h1.yield W) ?_
      rw[←C9 t d v x]
      exact uL hokW hcl hs hpn (C8 hl' d h2) h3 (fun t2 a1 a2 a3=>hk t2 a1 ((hkp.trans (rB t d v x)).trans a2) a3) fun ch t2 a1 a2 a3=>hkp0 ch t2 a1 ((hkp.trans (rB t d v x)).trans a2) a3
   ·cases hd:o.dst with
    | none=>rw[hd] at q4;cases q4
    | some d=>
     obtain⟨hN,e⟩:=pk hd hsk
     subst e
     exact l6.zn i hpn p2 hs p4 hcon hw hd hN (uL hokW hcl hs hpn (hl'.put _ _) h' (fun t2 a1 a2 a3=>hk t2 a1 (hkp.trans ⟨a2.lo,a2.bL,a2.df⟩) a3) fun ch t2 a1 a2 a3=>hkp0 ch t2 a1 (hkp.trans ⟨a2.lo,a2.bL,a2.df⟩) a3)
  ·exact l6.E8 (iH hokW hcl hs hpn hl h hk hkp0)
theorem HE {id:Nat}(hm:P.follows .mixedOrders=true) (hokW:∀h,ok h=true→W.contains h=true){kp:List PanicEntry→ah S→Option A}(hcl:ze P N W cl kp r){s:ah S}{k:ah S→Option A}(hl:aY s) (h:uM P N ok W ops cl s k=some r)
  (hk:∀t:ah S,aY t→bz s t→k t=some r→Q .normal t.er) (hkp:∀ch (t:ah S),aY t→bz s t→kp ch t=some r→∃u,Gh t.er u∧Q (.panic ch) u∧∀d,d∈qI ops→get u.fr d=none):GW P N cx (.region id ops true) Q s.er:=by
 unfold uM at h
 split at h
 ·rename_i hc
  simp only[ai] at hc
  refine(GW.Ff (Q:=fun e s=>Q e s∧∀ch,e=.panic ch→∀d,d∈qI ops→get s.fr d=none) W hm (uL hokW hcl hc.1 (fun c s h d hd=>h.2 c rfl d hd) hl h (fun t a b c=>⟨hk t a b c,fun ch e=>by cases e⟩) fun ch t a b c=>?_) hc.2).mono fun e s h=>h.1
  obtain⟨u,g1,g2,g3⟩:=hkp ch t a b c
  exact⟨u,g1,g2,fun _ _=>g3⟩
 ·cases h
end
end
end Go.DN
