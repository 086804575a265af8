/-
  DN, second part.
-/
import Derived.Test.YtfkigaldejbeiaaMgC
import Derived.Test.YtfkigaldejbeiaaMgF
set_option linter.unusedSectionVars false
set_option linter.unusedSimpArgs false
set_option linter.unusedVariables false
/-
 DN,part Kd:slices of slices.
-/
namespace Go.DN
open Go.AM
def bw (d:Nat):List Nat→Bool
 | []=>false
 | x::r=>bif Nat.beq x d then true else bw d r
theorem bQ {d:Nat}:∀{l:List Nat},bw d l=true↔d∈l
 | []=>by simp[bw]
 | x::r=>by
  simp only[bw,aZ]
  cases hb:Nat.beq x d with
  | true=>have:=aa hb;subst this;simp
  | false=>
   rw[cond_false,bQ]
   constructor
   ·exact .inr
   ·rintro(e | h)
    ·subst e;rw[aI] at hb;cases hb
    ·exact h
section
variable {S:eE}
theorem gJ {t:ah S}(h:t.last=[]):a5 t:=fun d hh x hm=>by rw[h] at hm;cases hm
def TV.eJ (h:Nat):TV S→TV S
 | .kp x τ i j=>bif Nat.beq x h then .any else .kp x τ i j
 | .fD b x τ i j=>bif Nat.beq x h&&!b then .any else .fD b x τ i j
 | .ks x τ i n=>bif Nat.beq x h then .any else .ks x τ i n
 | .agg l=>.agg (go l)
 | .bl l=>.bl (go l)
 | .aF f l=>.aF f (go l)
 | v=>v
where go:List (TV S)→List (TV S)
 | []=>[]
 | v::r=>v.eJ h::go r
theorem Rd {h:Nat}{m:G}(hm:Pl m) (f:Bool):AM.eJ h (dw f m)=dw f m:=by
 rcases hm with ⟨u,rfl⟩ | ⟨n,cs,rfl⟩ <;> cases f <;> rfl
mutual
theorem L8 (ln:Nat→Nat) (h:Nat):∀v:TV S,(v.eJ h).er ln=AM.eJ h (v.er ln)
 | .ab f τ a=>by
  cases τ with
  | st n=>
   show G.agg ((aN S (.st n) a).map (dw f))=.agg (AM.eJ.go h ((aN S (.st n) a).map (dw f)))
   have hp:=sf (S:=S) (.st n) a
   generalize aN S (.st n) a=l at hp
   congr 1
   induction l with
   | nil=>rfl
   | cons x r ih=>
    simp only[aJ,AM.eJ.go]
    rw[Rd (hp x au),←ih fun y hy=>hp y (ao _ hy)]
  | _=>cases f <;> rfl
 | .ptr f τ a=>by cases f <;> rfl
 | .agg l=>by show G.agg _=G.agg _;rw[vP ln h l]
 | .bl l=>by show G.bl _=G.bl _;rw[vP ln h l]
 | .aF f l=>by show G.aF _ _=G.aF _ _;rw[vP ln h l]
 | .kp x τ i j=>by
  show(bif Nat.beq x h then(TV.any:TV S) else .kp x τ i j).er ln=bif Nat.beq x h then G.any else .kp x i (j*S.sz τ)
  cases Nat.beq x h <;> rfl
 | .fD b x τ i j=>by
  cases b with
  | true=>
   show(bif Nat.beq x h&&false then _ else _:TV S).er ln=.val _
   rw[Bool.and_false];rfl
  | false=>
   show(bif Nat.beq x h&&true then _ else _:TV S).er ln=bif Nat.beq x h then G.any else .kp x i (j*S.sz τ)
   cases Nat.beq x h <;> rfl
 | .ks x τ i n=>by
  show(bif Nat.beq x h then(TV.any:TV S) else .ks x τ i n).er ln=bif Nat.beq x h then G.any else .ks x i (S.sz τ) n
  cases Nat.beq x h <;> rfl
 | .loc _ _=>rfl
 | .gK _ _ _ _=>rfl
 | .aR _ _=>rfl
 | .sub _ _ _ _=>rfl
 | .ct _=>rfl
 | .mp _=>rfl
 | .val _=>rfl
 | .any=>rfl
theorem vP (ln:Nat→Nat) (h:Nat):∀l:List (TV S),TV.er.go ln (TV.eJ.go h l)=AM.eJ.go h (TV.er.go ln l)
 | []=>rfl
 | v::r=>by simp only[TV.eJ.go,TV.er.go,AM.eJ.go,L8 ln h v,vP ln h r]
end
mutual
theorem L7 {h:Nat}:∀v:TV S,v.has h=false→v.eJ h=v
 | .kp x τ i j,e=>by
  show(bif Nat.beq x h then _ else _)=_
  rw[show Nat.beq x h=false from e];rfl
 | .fD b x τ i j,e=>by
  have e:(Nat.beq x h&&!b)=false:=e
  show(bif Nat.beq x h&&!b then _ else _)=_
  rw[e];rfl
 | .ks x τ i n,e=>by
  show(bif Nat.beq x h then _ else _)=_
  rw[show Nat.beq x h=false from e];rfl
 | .agg l,e=>congrArg TV.agg (vO l e)
 | .bl l,e=>congrArg TV.bl (vO l e)
 | .aF f l,e=>congrArg (TV.aF f) (vO l e)
 | .ab _ _ _,_=>rfl
 | .ptr _ _ _,_=>rfl
 | .loc _ _,_=>rfl
 | .gK _ _ _ _,_=>rfl
 | .aR _ _,_=>rfl
 | .sub _ _ _ _,_=>rfl
 | .ct _,_=>rfl
 | .mp _,_=>rfl
 | .val _,_=>rfl
 | .any,_=>rfl
theorem vO {h:Nat}:∀l:List (TV S),TV.has.go h l=false→TV.eJ.go h l=l
 | [],_=>rfl
 | v::r,e=>by
  simp only[TV.has.go,bI] at e
  simp only[TV.eJ.go,L7 v e.1,vO r e.2]
end
theorem zn {h t:Nat}:∀{fr:List (Nat×G)}{g:G},AM.get fr t=some g→AM.get (mC h fr) t=some (AM.eJ h g)
 | [],_,e=>by cases e
 | (k,g')::r,g,e=>by
  simp only[AM.get] at e
  simp only[mC,AM.get]
  cases hb:Nat.beq k t with
  | true=>rw[hb] at e;cases e;rfl
  | false=>rw[hb] at e;exact zn e
def zm (v:TV S):List Nat→Bool
 | []=>false
 | x::r=>v.has x||zm v r
def TV.fk (h:Nat) (rm:List Nat) (v:TV S):TV S:=match zm v rm with | true=>.any | false=>v.eJ h
def Nl (h:Nat) (rm:List Nat):List (Nat×TV S)→List (Nat×TV S)
 | []=>[]
 | (t,v)::r=>(t,v.fk h rm)::Nl h rm r
def TO.fk (h:Nat) (rm:List Nat):TO S→TO S
 | .box e m cs=>.box e m (cs.map (TV.fk h rm))
 | .lp l n cs=>.lp l n (cs.map (TV.fk h rm))
 | o=>o
def Ie (h:Nat) (rm:List Nat):List (Nat×TO S)→List (Nat×TO S)
 | []=>[]
 | (t,o)::r=>match bw t rm with
  | true=>Ie h rm r
  | false=>(t,o.fk h rm)::Ie h rm r
def ah.hand (s:ah S) (h:Nat) (rm:List Nat) (o:TO S):ah S:={s with fr:=Nl h rm s.fr,st:=(h,o)::Ie h rm s.st,last:=[]}
def inner (s:ah S):List Nat→Bool
 | []=>true
 | x::r=>(match aw s.bO x with | none=>true | some _=>false)&&(!(TV.has.go x s.df)&&(!(gr x s.lo)&&!(eL x s.bO)))&&inner s r
theorem PP {h:Nat}{rm:List Nat}{v:TV S}(h1:v.has h=false) (h2:zm v rm=false):v.fk h rm=v:=by
 unfold TV.fk;rw[h2];exact L7 v h1
theorem RT (h:Nat) (rm:List Nat) (o:TO S):(o.fk h rm).len=o.len:=by cases o <;> rfl
theorem Gv {h:Nat}{rm:List Nat}:∀{fr:List (Nat×TV S)}{d:Nat},bg (Nl h rm fr) d=(bg fr d).map (TV.fk h rm)
 | [],_=>rfl
 | (t,v)::r,d=>by
  simp only[Nl,bg]
  cases Nat.beq t d with
  | true=>rfl
  | false=>exact Gv
theorem Bs {h:Nat}{rm:List Nat}:∀{st:List (Nat×TO S)}{x:Nat},aw (Ie h rm st) x=match bw x rm with | true=>none | false=>(aw st x).map (TO.fk h rm)
 | [],x=>by simp only[Ie,aw,Option.map_none];cases bw x rm <;> rfl
 | (t,o)::r,x=>by
  simp only[Ie]
  split
  ·rename_i hm
   rw[Bs]
   simp only[aw]
   cases hb:Nat.beq t x with
   | true=>
    have:=aa hb
    subst this
    rw[hm]
   | false=>rfl
  ·rename_i hm
   simp only[aw]
   cases hb:Nat.beq t x with
   | true=>
    have:=aa hb
    subst this
    rw[hm];rfl
   | false=>exact Bs
theorem Ea {v:TV S}:∀{rm:List Nat},(∀x,x∈rm→v.has x=false)→zm v rm=false
 | [],_=>rfl
 | x::r,h=>by simp only[zm,h x au,Ea fun y hy=>h y (ao _ hy),Bool.or_self]
theorem Ff {v:TV S}:∀{rm:List Nat},zm v rm=false→∀x,x∈rm→v.has x=false
 | [],_,_,hm=>by cases hm
 | x::r,h,y,hm=>by
  simp only[zm,bI] at h
  rcases aZ.1 hm with rfl | hm
  ·exact h.1
  ·exact Ff h.2 y hm
theorem je {s:ah S}:∀{rm:List Nat},inner s rm=true→∀x,x∈rm→aw s.bO x=none∧TV.has.go x s.df=false∧gr x s.lo=false∧eL x s.bO=false
 | [],_,_,hm=>by cases hm
 | y::r,h,x,hm=>by
  simp only[inner,aj,a8] at h
  rcases aZ.1 hm with rfl | hm
  ·refine⟨?_,h.1.2.1,h.1.2.2.1,h.1.2.2.2⟩
   cases hq:aw s.bO x with
   | none=>rfl
   | some o=>rw[hq] at h;cases h.1.1
  ·exact je h.2 x hm
theorem H8 {s:ah S}{h:Nat}{rm:List Nat}{o:TO S}(hi:inner s (h::rm)=true) (hh:h∉rm) (x:Nat):aw (s.hand h rm o).bi x=bif Nat.beq h x then some o else match bw x rm with | true=>none | false=>(aw s.bi x).map (TO.fk h rm):=by
 show aw ((h,o)::(Ie h rm s.st++s.bO)) x=_
 simp only[aw]
 cases hb:Nat.beq h x with
 | true=>rfl
 | false=>
  simp only[cond_false]
  rw[di,Bs]
  show _=match bw x rm with | true=>none | false=>(aw (s.st++s.bO) x).map (TO.fk h rm)
  rw[di]
  cases hm:bw x rm with
  | true=>exact(je hi x (ao _ (bQ.1 hm))).1
  | false=>
   dsimp only
   cases h1:aw s.st x with
   | some o=>rfl
   | none=>
    show aw s.bO x=(aw s.bO x).map _
    cases h2:aw s.bO x with
    | none=>rfl
    | some o2=>
     rw[bL]
     have hn:∀y,y∈h::rm→o2.has y=false:=fun y hy=>pi h2 (je hi y hy).2.2.2
     have hL:∀l:List (TV S),(∀y,y∈h::rm→TV.has.go y l=false)→l.map (TV.fk h rm)=l:=by
      intro l
      induction l with
      | nil=>intro _;rfl
      | cons v r ih=>
       intro hv
       have hv':∀y,y∈h::rm→v.has y=false∧TV.has.go y r=false:=fun y hy=>by
        have:=hv y hy
        simpa[TV.has.go] using this
       rw[aJ,ih fun y hy=>(hv' y hy).2,PP (hv' h au).1 (Ea fun y hy=>(hv' y (ao _ hy)).1)]
     cases o2 with
     | box e m cs=>simp only[TO.fk];rw[hL cs hn]
     | lp l n cs=>simp only[TO.fk];rw[hL cs hn]
     | _=>rfl
theorem OP {s:ah S}{h:Nat}{rm:List Nat}{o:TO S}(hi:inner s (h::rm)=true) (d:Nat):bg (s.hand h rm o).bZ d=(bg s.bZ d).map (TV.fk h rm):=by
 show bg (Nl h rm s.fr++s.lo) d=(bg (s.fr++s.lo) d).map _
 rw[j5,j5,Gv]
 cases bg s.fr d with
 | some v=>rfl
 | none=>
  show bg s.lo d=(bg s.lo d).map _
  cases h2:bg s.lo d with
  | none=>rfl
  | some v=>rw[bL,PP (nl h2 (je hi h au).2.2.1) (Ea fun y hy=>nl h2 (je hi y (ao _ hy)).2.2.1)]
theorem Eb {s:ah S}{h:Nat}{rm:List Nat}{o o':TO S}{s1:St}(ho:aw s.st h=some o) (hlen:o'.len=o.len) (hln:∀ln ln',o'.er ln=o'.er ln') (hi:inner s (h::rm)=true) (hh:h∉rm)
  (h1:s1.fr=mC h s.er.fr) (h2:aq s1.st h=some (o'.er s.ln)) (h3:∀x k0,x≠h→x∉rm→aq s.er.st x=some k0→aq s1.st x=some (qD h k0)) (h4:s1.df=AM.eJ.go h s.er.df):
  Gh s1 (s.hand h rm o').er∧a5 (s.hand h rm o')∧bF s (s.hand h rm o'):=by
 have hag:∀x,x∉rm→s.ln x=(s.hand h rm o').ln x:=by
  intro x hx
  show b6 s.bi x=b6 (s.hand h rm o').bi x
  unfold b6
  rw[H8 hi hh]
  cases hb:Nat.beq h x with
  | true=>
   have:=aa hb
   subst this
   rw[dU ho];exact hlen.symm
  | false=>
   have hm:bw x rm=false:=by
    cases hm:bw x rm with
    | false=>rfl
    | true=>exact absurd (bQ.1 hm) hx
   rw[hm]
   simp only[cond_false]
   cases aw s.bi x with
   | none=>rfl
   | some o=>exact(RT h rm o).symm
 have hcv:∀v:TV S,CV s1.st (s.hand h rm o').er.st (AM.eJ h (v.er s.ln)) ((v.fk h rm).er (s.hand h rm o').ln):=by
  intro v
  unfold TV.fk
  cases hv:zm v rm with
  | true=>exact CV.any _ _ _
  | false=>
   dsimp only
   rw[L8,oY (ln:=s.ln) (ln':=(s.hand h rm o').ln) v fun k hk=>hag k fun hm=>by rw[Ff hv k hm] at hk;cases hk]
   exact CV.refl _ _ _
 have hcvL:∀cs:List (TV S),I3 s1.st (s.hand h rm o').er.st (AM.eJ.go h (TV.er.go s.ln cs)) (TV.er.go (s.hand h rm o').ln (cs.map (TV.fk h rm))):=by
  intro cs
  induction cs with
  | nil=>exact⟨rfl,fun j g' hg'=>by simp[TV.er.go] at hg'⟩
  | cons v r ih=>
   refine⟨by simp only[aJ,TV.er.go,AM.eJ.go,bA,ih.1],fun j g' hg'=>?_⟩
   simp only[aJ,TV.er.go,AM.eJ.go] at hg'⊢
   cases j with
   | zero=>cases hg';exact⟨_,rfl,hcv v⟩
   | succ j=>exact ih.2 j g' hg'
 refine⟨Gh.gen (fun d g' hg'=>?_) (fun x k' hk'=>?_) ?_,gJ rfl,⟨rfl,rfl,rfl⟩⟩
 ·obtain⟨v',e1,rfl⟩:=xz hg'
  rw[OP hi] at e1
  obtain⟨v,e2,rfl⟩:=av.1 e1
  refine⟨AM.eJ h (v.er s.ln),?_,hcv v⟩
  rw[h1]
  exact zn (fh e2)
 ·obtain⟨o2,e1,rfl⟩:=pk hk'
  rw[H8 hi hh] at e1
  cases hb:Nat.beq h x with
  | true=>
   rw[hb] at e1
   cases e1
   have:=aa hb
   subst this
   refine⟨_,h2,?_⟩
   rw[hln (s.hand h rm o').ln s.ln]
   exact oF.refl _ _ _
  | false=>
   rw[hb] at e1
   simp only[cond_false] at e1
   split at e1
   ·cases e1
   ·rename_i hm
    obtain⟨o3,e2,rfl⟩:=av.1 e1
    refine⟨_,h3 x _ (fun e=>by subst e;rw[aI] at hb;cases hb) (fun e=>by rw[bQ.2 e] at hm;cases hm) (fM e2),?_⟩
    cases o3 with
    | box e m cs=>exact⟨rfl,id,rfl,rfl,rfl,(hcvL cs).1,.inr ⟨rfl,(hcvL cs).2⟩⟩
    | lp l n cs=>exact⟨rfl,id,rfl,rfl,rfl,(hcvL cs).1,.inr ⟨rfl,(hcvL cs).2⟩⟩
    | aV e m f τ l=>exact oF.refl _ _ _
    | deep e m f dk τ a=>exact oF.refl _ _ _
 ·rw[h4]
  show AM.eJ.go h (TV.er.go s.ln s.df)=TV.er.go (s.hand h rm o').ln s.df
  have hd:=fun x hx=>(je hi x hx).2.1
  rw[←vP,vO _ (hd h au)]
  exact lD _ fun k hk=>hag k fun hm=>by rw[hd k (ao _ hm)] at hk;cases hk
def wH {α:Type}:List (List α)→Bool
 | []=>true
 | []::r=>wH r
 | (_::_)::_=>false
theorem yc {α:Type}:∀{l:List (List α)},wH l=true→∀r,r∈l→r=[]
 | []::l,h,r,hm=>by
  rcases aZ.1 hm with e | hm
  ·exact e
  ·exact yc (l:=l) h r hm
 | (_::_)::_,h,_,_=>by cases h
theorem uz {α:Type}:∀n:Nat,wH (List.replicate n ([]:List α))=true
 | 0=>rfl
 | n+1=>by rw[ob];exact uz n
theorem JD (t:Ty):∀{l:List (List (S.D t))},wH l=true→(List.flatMap (aN S (.list t)) l).map (fun _=>((0,[]):Nat×List G))=List.map (fun r=>(List.length r,List.flatMap (aN S t) r)) l
 | [],_=>rfl
 | x::r,h=>by
  have hx:=yc h x au
  subst hx
  rw[cp,jC,JD t (l:=r) h];rfl
def FL (s:ah S) (h kty:Nat){A:Type}(k:ah S→Option A):Option A:=
 match Nat.blt h 1000&&inner s [h] with
 | true=>match aw s.st h with
  | some (.aV e m f (.list t) l)=>(bo (wH l=true)).bind fun _=>k (s.hand h [] (.deep e m f (.dK kty) (.list (.list t)) l))
  | _=>none
 | false=>none
theorem Gp {s:ah S}{h kty:Nat}{A:Type}{k:ah S→Option A}{r:A}(hl:a5 s) (e:FL s h kty k=some r):∃t,Gh s.er t.er∧a5 t∧bF s t∧k t=some r:=by
 unfold FL at e
 split at e
 ·rename_i hc
  simp only[aj] at hc
  split at e
  ·rename_i bP m f t l ho
   obtain⟨_,h1,e⟩:=bind_some e
   have h1:=cm h1
   have hk:=cQ (dU ho)
   have hcs:∀g∈((TO.aV bP m f (.list t) l:TO S).er s.ln).cells,g=.sl 0 []:=by
    intro g hg
    have hg:g∈List.flatMap (aN S (.list t)) l:=hg
    obtain⟨r,hr,hg⟩:=ib.1 hg
    rw[yc h1 r hr] at hg
    exact cu.1 hg
   have hrows:(((TO.aV bP m f (.list t) l:TO S).er s.ln).cells.map fun _=>((0,[]):Nat×List G))=(dH (.list (.list t)) l).2:=by
    exact JD t h1
   obtain⟨g1,g2,g3⟩:=Eb (s:=s) (h:=h) (rm:=[]) (o':=.deep bP m f (.dK kty) (.list (.list t)) l)
    (s1:={fr:=mC h s.er.fr,st:=bD (jr h s.er.st) h {((TO.aV bP m f (.list t) l:TO S).er s.ln) with cells:=[],lp:=some (.deep (iu bP kty (S.sz t) (dH (.list (.list t)) l).2))},df:=AM.eJ.go h s.er.df})
    ho rfl (fun _ _=>rfl) hc.2 (by simp) rfl (by rw[fg (iO hk)];rfl) (fun x k0 hx _ h0=>by show aq (bD _ _ _) _=_;rw[eO hx];exact iO h0) rfl
   refine⟨_,Gh.trans (fun N cx μ a w hr=>?_) g1,g2,g3,e⟩
   have:=hr.SW hk rfl rfl rfl hcs (gW hc.1) kty (S.sz t)
   rw[hrows] at this
   exact this
  ·cases e
 ·cases e
def Gk (s:ah S) (h:Nat):Option (ah S):=
 match Nat.blt h 1000&&inner s [h] with
 | true=>match aw s.st h with
  | some (.deep e true f (.dK _) (.list (.list t)) l)=>some (s.hand h [] (.aV e true f (.list t) l))
  | _=>none
 | false=>none
theorem L6 {s t:ah S}{h:Nat}(hl:a5 s) (e:Gk s h=some t):Gh s.er t.er∧a5 t∧bF s t:=by
 unfold Gk at e
 split at e
 ·rename_i hc
  simp only[aj] at hc
  split at e
  ·rename_i bP f kty t l ho
   cases e
   have hk:=cQ (dU ho)
   have hrows:(dH (.list (.list t)) l).2.map (fun r=>G.sl r.1 r.2)=List.flatMap (aN S (.list t)) l:=by
    show List.map _ (List.map _ l)=_
    clear ho hk
    induction l with
    | nil=>rfl
    | cons x r ih=>rw[aJ,aJ,ih,cp];rfl
   obtain⟨g1,g2,g3⟩:=Eb (s:=s) (h:=h) (rm:=[]) (o':=.aV bP true f (.list t) l)
    (s1:={fr:=mC h s.er.fr,st:=bD (jr h s.er.st) h {((TO.deep bP true f (.dK kty) (.list (.list t)) l:TO S).er s.ln) with cells:=(dH (.list (.list t)) l).2.map (fun r=>G.sl r.1 r.2),lp:=none},df:=AM.eJ.go h s.er.df})
    ho rfl (fun _ _=>rfl) hc.2 (by simp) rfl (by rw[fg (iO hk),hrows];rfl) (fun x k0 hx _ h0=>by show aq (bD _ _ _) _=_;rw[eO hx];exact iO h0) rfl
   exact⟨Gh.trans (fun N cx μ a w hr=>hr.Sm hk rfl rfl rfl rfl (gW hc.1)) g1,g2,g3⟩
  ·cases e
 ·cases e
def DE (s:ah S) (h:Nat):Option (ah S):=
 none
theorem Kx {s t:ah S}{h:Nat}(hl:a5 s) (e:DE s h=some t):Gh s.er t.er∧a5 t∧bF s t:=by
 unfold DE at e
 cases e
def HW (s:ah S) (h:Nat):Bool:=match aw s.bi h with
 | some (.deep _ _ _ (.rows _ _) _ _)=>true
 | _=>false
def HZ (s:ah S) (h:Nat):Bool:=match aw s.bi h with
 | some (.deep ..)=>true
 | _=>false
def Ao (s:ah S) (h:Nat):Option (ah S):=
 match HZ s h with
 | true=>match (match HW s h with | true=>DE s h | false=>Gk s h) with
  | some s'=>Ap s' h
  | none=>none
 | false=>Ap s h
theorem C7 {s t:ah S}{h:Nat}(hl:a5 s) (hf:Ao s h=some t):Gh s.er t.er∧a5 t∧bF s t:=by
 unfold Ao at hf
 split at hf
 ·split at hf
  ·rename_i s' hs
   have hs2:Gh s.er s'.er∧a5 s'∧bF s s':=by
    split at hs
    ·exact Kx hl hs
    ·exact L6 hl hs
   obtain⟨a1,a2,a3⟩:=hs2
   obtain⟨b1,b2,b3⟩:=C8 a2 hf
   exact⟨a1.trans b1,b2,a3.trans b3⟩
  ·cases hf
 ·exact C8 hl hf
def Ef {A:Type}:(dk:Dk)→(τ':Ty)→S.D τ'→Ty→TypeId→Ty→(τ2:Ty)→List (S.D τ2)→Nat→(S.D τ'→Option A)→Option A
 | .dK kty,.list (.list u),ll,τ,e2,t2,τ2,l2,i,k=>match Nat.beq e2 kty with
  | true=>match decEq τ (.list u),decEq t2 u with
   | isTrue _,isTrue _=>match iw (.list τ2) (.list u) l2 with
    | some l=>(bo (i<List.length ll)).bind fun _=>k (List.set ll i l)
    | none=>none
   | _,_=>none
  | false=>none
 | _,_,_,_,_,_,_,_,_,_=>none
theorem Ly {A:Type}{r0:A}:∀{dk:Dk}{τ':Ty}{a:S.D τ'}{τ:Ty}{e2:TypeId}{t2 τ2:Ty}{l2:List (S.D τ2)}{i:Nat}{k:S.D τ'→Option A},Ef dk τ' a τ e2 t2 τ2 l2 i k=some r0→
  ∃a',dk=.dK e2∧τ=.list t2∧t2=τ2∧(dH τ' a).1=S.sz τ2∧i<(dH τ' a).2.length∧k a'=some r0∧sq τ' a'=sq τ' a∧(dH τ' a').1=(dH τ' a).1∧
   (dH τ' a').2=(dH τ' a).2.set i (List.length l2,List.flatMap (aN S τ2) l2)
 | .dK kty,.list (.list u),ll,τ,e2,t2,τ2,l2,i,k,h=>by
  simp only[Ef] at h
  split at h
  ·rename_i he
   have he:=aa he
   subst he
   split at h
   ·rename_i q1 q2 _ _
    subst q1;subst q2
    split at h
    ·rename_i l hl
     obtain⟨q,hl⟩:=nW hl
     subst q
     cases hl
     obtain⟨_,h1,h⟩:=bind_some h
     have h1:=cm h1
     refine⟨_,rfl,rfl,rfl,rfl,by show i<(List.map _ ll).length;rw[aW];exact h1,h,by show(List.set ll i l2).length=ll.length;exact cW,rfl,?_⟩
     show List.map _ (List.set ll i l2)=List.set (List.map _ ll) i _
     rw[kE]
    ·cases h
   ·cases h
  ·cases h
 | .dK _,.list (.int _),_,_,_,_,_,_,_,_,h=>by cases h
 | .dK _,.list .bool,_,_,_,_,_,_,_,_,h=>by cases h
 | .dK _,.list .str,_,_,_,_,_,_,_,_,h=>by cases h
 | .dK _,.list (.st _),_,_,_,_,_,_,_,_,h=>by cases h
 | .dK _,.int _,_,_,_,_,_,_,_,_,h=>by cases h
 | .dK _,.bool,_,_,_,_,_,_,_,_,h=>by cases h
 | .dK _,.str,_,_,_,_,_,_,_,_,h=>by cases h
 | .dK _,.st _,_,_,_,_,_,_,_,_,h=>by cases h
def Ii (P:Program) (ok:Nat→Bool) (s:ah S) (t:TypeId) (x y:Operand){A:Type}(k:ah S→Option A):Option A:=
 match cn s x with
 | some (.gK h τ i 0)=>match cn s y with
  | some (.aR h2 t2)=>match ok h&&(ok h2&&(Nat.blt h 1000&&(!(Nat.beq h2 h)&&inner s [h,h2]))) with
   | true=>match aw s.st h with
    | some (.deep e m f dk τ' a)=>match aw s.st h2 with
     | some (.aV e2 m2 f2 τ2 l2)=>match decEq (kz P t) (some 1) with
      | isTrue _=>match !m||m2 with
       | true=>Ef dk τ' a τ e2 t2 τ2 l2 i fun a'=>k (s.hand h [h2] (.deep e m (f&&f2) dk τ' a'))
       | false=>none
      | isFalse _=>none
     | _=>none
    | _=>none
   | false=>none
  | _=>none
 | _=>none
theorem Np {P:Program}{W:List Nat}{ok:Nat→Bool}(hokW:∀h,ok h=true→W.contains h=true){s:ah S}{t:TypeId}{x y:Operand}{ty:TypeId}{pos:String}{after:Array Edge}{guard:Option (Nat×Bool)}{A:Type}{k:ah S→Option A}{r:A}
  (hl:a5 s) (h:Ii P ok s t x y k=some r):fC P W s ⟨none,.store t x y,ty,pos,after,guard⟩ k r:=by
 unfold Ii at h
 split at h
 ·rename_i hh τ i hx
  split at h
  ·rename_i h2 t2 hy
   split at h
   ·rename_i hc
    simp only[aj,a8] at hc
    obtain⟨c1,c2,c3,c4,c5⟩:=hc
    split at h
    ·rename_i e m f dk τ' a ho
     split at h
     ·rename_i e2 m2 f2 τ2 l2 ho2
      split at h
      ·rename_i hsz _
       split at h
       ·rename_i hm
        obtain⟨a',q1,q2,q3,q4,q5,q6,q7,q8,q9⟩:=Ly h
        subst q1;subst q2;subst q3
        have hk:=cQ (dU ho)
        have hk2:=cQ (dU ho2)
        have hne:hh≠h2:=fun e=>by subst e;rw[aI] at c4;cases c4
        have hkd:aq (oP s.er.st h2) hh=some _:=k8 hne hk
        have hoE:(TO.deep e m (f&&f2) (.dK e2) τ' a':TO S).er s.ln=⟨e,true,m,f&&f2,1,[],some (.deep (iu e e2 (dH τ' a).1 ((dH τ' a).2.set i (List.length l2,List.flatMap (aN S t2) l2))))⟩:=by
         show ap.mk _ _ _ _ _ _ (some (.deep (iu e e2 (dH τ' a').1 (dH τ' a').2)))=_
         rw[q8,q9]
        obtain⟨g1,g2,g3⟩:=Eb (s:=s) (h:=hh) (rm:=[h2]) (o':=.deep e m (f&&f2) (.dK e2) τ' a')
         (s1:={fr:=mC hh s.er.fr,st:=bD (jr hh (oP s.er.st h2)) hh ⟨e,true,m,f&&f2,1,[],some (.deep (iu e e2 (dH τ' a).1 ((dH τ' a).2.set i (List.length l2,List.flatMap (aN S t2) l2))))⟩,df:=AM.eJ.go hh s.er.df})
         ho q7 (fun _ _=>rfl) c5 (by simpa using hne) rfl (by rw[hoE,fg (iO hkd)]) (fun x k0 hx1 hx2 h0=>by
          show aq (bD _ _ _) _=_
          rw[eO hx1]
          exact iO (k8 (by simpa using hx2) h0)) rfl
        refine .one _ (EF.OZ (P:=P) (W:=W) (t:=t) (x:=x) (y:=y) (n:=List.length l2) (by rw[bh hx];simp[TV.er,eE.sz]) (by rw[bh hy];show some (G.aR h2 (S.sz t2) 0 (s.ln h2))=_;rw[mf (dU ho2),←q4]) c4 hk rfl q5 (gW c3) hk2 rfl rfl rfl q4.symm (by rw[q4];exact Cn S t2)
         (by show(List.flatMap (aN S t2) l2).length=_;rw[eR,q4]) (fun hm'=>by
          have hm':m=true:=hm'
          rw[hm'] at hm
          exact(by simpa using hm:m2=true)) (dA hsz) (hokW _ c1) (hokW _ c2)) g1 g2 g3 q6
       ·cases h
      ·cases h
     ·cases h
    ·cases h
   ·cases h
  ·cases h
 ·cases h
mutual
theorem PX {h:Nat}:∀g:G,g.b9 h=false→AM.eJ h g=g
 | .kp x i off,e=>by
  show(bif Nat.beq x h then _ else _)=_
  rw[show Nat.beq x h=false from e];rfl
 | .ks x i sz n,e=>by
  show(bif Nat.beq x h then _ else _)=_
  rw[show Nat.beq x h=false from e];rfl
 | .agg gs,e=>congrArg G.agg (wT gs e)
 | .bl gs,e=>congrArg G.bl (wT gs e)
 | .aF f gs,e=>congrArg (G.aF f) (wT gs e)
 | .loc _ _,_=>rfl
 | .aR _ _ _ _,_=>rfl
 | .ct _,_=>rfl
 | .dV _,_=>rfl
 | .any,_=>rfl
 | .val _,_=>rfl
 | .sl _ _,_=>rfl
 | .ptr _,_=>rfl
 | .fr _,_=>rfl
theorem wT {h:Nat}:∀gs:List G,G.b9.go h gs=false→AM.eJ.go h gs=gs
 | [],_=>rfl
 | x::r,e=>by
  simp only[G.b9.go,bI] at e
  simp only[AM.eJ.go,PX x e.1,wT r e.2]
end
def Eh (P:Program) (ok:Nat→Bool) (s:ah S) (d:Nat) (t:TypeId) (n:Nat) (parts:Array (Nat×Operand)){A:Type}(k:ah S→Option A):Option A:=
 none
theorem Lz {P:Program}{W:List Nat}{ok:Nat→Bool}(hokW:∀h,ok h=true→W.contains h=true){s:ah S}{d:Nat}{t:TypeId}{n:Nat}{parts:Array (Nat×Operand)}{ty:TypeId}{pos:String}{after:Array Edge}{guard:Option (Nat×Bool)}{A:Type}{k:ah S→Option A}{r:A}
  (hl:a5 s) (h:Eh P ok s d t n parts k=some r):fC P W s ⟨some d,.buildSlice t n parts,ty,pos,after,guard⟩ k r:=by
 unfold Eh at h
 cases h
def Ei (P:Program) (ok:Nat→Bool) (s:ah S) (d:Nat) (c:Call){A:Type}(k:ah S→Option A):Option A:=
 none
theorem LA {P:Program}{W:List Nat}{ok:Nat→Bool}(hokW:∀h,ok h=true→W.contains h=true){s:ah S}{d:Nat}{args:Array Operand}{ts:Array TypeId}{ty:TypeId}{pos:String}{after:Array Edge}{guard:Option (Nat×Bool)}{A:Type}{k:ah S→Option A}{r:A}
  (hl:a5 s) (hq:Ei P ok s d ⟨.builtin .append,args,ts⟩ k=some r):fC P W s ⟨some d,.call ⟨.builtin .append,args,ts⟩,ty,pos,after,guard⟩ k r:=by
 unfold Ei at hq
 cases hq
end
end Go.DN
/-
 DN,part Ke:slices that are written no more,slices that are adopted,slices whose end is cut off.
-/
namespace Go.DN
open Go.AM
section
variable {S:eE}
def TV.K0:TV S→List Nat
 | .aR h _=>[h]
 | .sub h _ _ _=>[h]
 | .agg l=>go l
 | .bl l=>go l
 | _=>[]
where go:List (TV S)→List Nat
 | []=>[]
 | x::r=>x.K0++go r
def p9:List Nat→ah S→Option (ah S)
 | [],s=>some s
 | h::r,s=>match aw s.bi h with
  | none=>p9 r s
  | some _=>match Ao s h with
   | some s'=>p9 r s'
   | none=>none
theorem lW:∀{l:List Nat}{s t:ah S},a5 s→p9 l s=some t→Gh s.er t.er∧a5 t∧bF s t
 | [],s,t,hl,h=>by cases h;exact⟨Gh.refl _,hl,bF.refl s⟩
 | x::r,s,t,hl,h=>by
  simp only[p9] at h
  split at h
  ·exact lW hl h
  ·split at h
   ·rename_i s' hs
    obtain⟨a1,a2,a3⟩:=C7 hl hs
    obtain⟨b1,b2,b3⟩:=lW a2 h
    exact⟨a1.trans b1,b2,a3.trans b3⟩
   ·cases h
def KZ (s:ah S):List Operand→List Nat
 | []=>[]
 | x::r=>(match cn s x with | some v=>v.K0 | none=>[])++KZ s r
theorem zr {α β:Type}{f:α→List β}{z:Nat}(hf:∀a,(f a).length=z):∀(l:List α) (n:Nat),List.flatMap f (l.take n)=(List.flatMap f l).take (n*z)
 | [],n=>by simp
 | x::r,0=>by simp
 | x::r,n+1=>by
  simp only[List.take_succ_cons,cp]
  have e1:(n+1)*z-z=n*z:=by rw[Nat.succ_mul];omega
  have e2:(f x).length≤(n+1)*z:=by rw[hf x,Nat.succ_mul];omega
  rw[zr hf r n,List.take_append,hf x,e1,b8 (l:=f x) e2]
theorem Gh.wK {s:St}(hh j hd:Nat) (e:TypeId) (sz:Nat){k:ap}(hk:aq s.st hh=some k) (hp:k.pure=false) (hj:k.cells[j]?=some (.val (.slice none 0 0))) (hf:fresh s hd=true) (hlp:k.lp=none):
  Gh s {fr:=s.fr,st:=bD ((hd,⟨e,true,true,true,sz,[],none⟩)::s.st) hh {k with cells:=k.cells.set j (.aR hd sz 0 0)},df:=s.df}:=fun N cx μ a w h=>by
 have h1:=h.wh hd ⟨e,true,true,true,sz,[],none⟩ hf rfl rfl
 have hne:hh≠hd:=fun e=>by
  subst e
  obtain⟨h2,_⟩:=fc hf
  rw[hk] at h2;cases h2
 have hk2:aq ((hd,(⟨e,true,true,true,sz,[],none⟩:ap))::s.st) hh=some k:=by rw[aD _ _ hne];exact hk
 refine⟨_,h1.vV (s:={fr:=s.fr,st:=(hd,⟨e,true,true,true,sz,[],none⟩)::s.st,df:=s.df}) hk2 rfl rfl rfl (by simp) hlp hlp fun i g' hg'=>?_,Gh.same fun x k1 b m hx hm=>?_⟩
 ·simp only[dr] at hg'
  by_cases e:j=i
  ·subst e
   rw[if_pos rfl] at hg'
   split at hg'
   ·cases hg'
    refine⟨_,hj,fun v hv=>?_⟩
    unfold cz at hv⊢
    simp only[hp] at hv⊢
    cases hv with
    | aH hv=>cases hv;exact .eQ hd sz (bz _ _ _)
   ·cases hg'
  ·rw[if_neg e] at hg'
   refine⟨g',hg',fun v hv=>?_⟩
   unfold cz at hv⊢
   exact hv
 ·by_cases e1:x=hd
  ·subst e1;rw[bz] at hm;cases hm
  ·rw[aT e1] at hm
   rcases cI hk2 hx with ⟨e2,_⟩ | ⟨e2,h3⟩
   ·subst e2;exact⟨k,hk,hm⟩
   ·rw[aD _ _ e1] at h3;exact⟨k1,h3,hm⟩
theorem NL {s:ah S}{h j hd:Nat}{e e':TypeId}{m:Bool}{cs:List (TV S)}{τ:Ty}(hl:a5 s) (ho:aw s.st h=some (.box e' m cs)) (hj:cs[j]?=some (.val (.slice none 0 0))) (hf:s.free hd=true):
  Gh s.er ((s.add hd (.aV e true true τ [])).set h (.box e' m (cs.set j (.aR hd τ)))).er∧a5 ((s.add hd (.aV e true true τ [])).set h (.box e' m (cs.set j (.aR hd τ)))):=by
 obtain⟨e1,hag⟩:=oE hf (.aV e true true τ ([]:List (S.D τ))) rfl
 obtain⟨f1,f2,f3,f4,f5⟩:=free_spec hf
 have hne:h≠hd:=fun e=>by subst e;rw[dU ho] at f1;cases f1
 have hne':Nat.beq hd h=false:=by
  cases hb:Nat.beq hd h with
  | false=>rfl
  | true=>exact absurd (aa hb).symm hne
 have ho2:aw (s.add hd (.aV e true true τ [])).st h=some (.box e' m cs):=by
  show aw ((hd,_)::s.st) h=_
  simp only[aw,hne',cond_false];exact ho
 obtain⟨g1,_⟩:=lc (o':=.box e' m (cs.set j (.aR hd τ))) ho2 rfl
 refine⟨?_,(hl.add (.aV e true true τ []) hf).set ho2 _⟩
 rw[g1,e1]
 have hcs:TV.has.go hd cs=false:=by
  have:=pi (dU ho) f3
  exact this
 have e3:(TO.box e' m (cs.set j (.aR hd τ)):TO S).er (s.add hd (.aV e true true τ [])).ln={(TO.box e' m cs:TO S).er s.ln with cells:=((TO.box e' m cs:TO S).er s.ln).cells.set j (.aR hd (S.sz τ) 0 0)}:=by
  have e4:TV.er.go (s.add hd (.aV e true true τ [])).ln (cs.set j (.aR hd τ))=(TV.er.go s.ln cs).set j (.aR hd (S.sz τ) 0 0):=by
   rw[cU,kE,←cU,←oU hag cs hcs]
   congr 1
   show G.aR _ _ _ ((s.add hd _).ln hd)=_
   rw[show(s.add hd (.aV e true true τ [])).ln hd=_ from tV _ _];rfl
  show ap.mk _ _ _ _ _ _ _=ap.mk _ _ _ _ _ _ _
  rw[e4];rfl
 rw[e3]
 exact Gh.wK (s:=s.er) h j hd e (S.sz τ) (fM (dU ho)) rfl (by show(TV.er.go s.ln cs)[j]?=_;rw[cU,ay,hj];rfl) (gq hf) rfl
def El (h:Nat):List (Nat×TO S)→List (Nat×TO S)
 | []=>[]
 | (k,o)::r=>bif Nat.beq k h then El h r else(k,o)::El h r
theorem xH {h x:Nat}(hx:x≠h):∀{st:List (Nat×TO S)},aw (El h st) x=aw st x
 | []=>rfl
 | (k,o)::r=>by
  simp only[El,aw]
  cases hb:Nat.beq k h with
  | true=>
   have:=aa hb
   subst this
   have h2:Nat.beq k x=false:=by
    cases h3:Nat.beq k x with
    | false=>rfl
    | true=>exact absurd (aa h3).symm hx
   rw[h2]
   exact xH hx
  | false=>
   simp only[cond_false,aw]
   cases Nat.beq k x with
   | true=>rfl
   | false=>exact xH hx
def ah.qd (s:ah S) (h:Nat):ah S:={s with st:=El h s.st,last:=yR h s.last}
theorem O4 {s:ah S}{h:Nat}(hl:a5 s) (hf:(s.qd h).free h=true):Gh s.er (s.qd h).er∧a5 (s.qd h)∧bF s (s.qd h):=by
 obtain⟨f1,f2,f3,f4,_⟩:=free_spec hf
 have hst:∀x,x≠h→aw (s.qd h).bi x=aw s.bi x:=by
  intro x hx
  show aw (El h s.st++s.bO) x=aw (s.st++s.bO) x
  rw[di,di,xH hx]
 have hag:jB s.ln (s.qd h).ln h:=by
  intro x hx
  show b6 s.bi x=b6 (s.qd h).bi x
  unfold b6
  rw[hst x hx]
 have hone:∀o:TO S,o.has h=false→oF s.er.st (s.qd h).er.st (o.er s.ln) (o.er (s.qd h).ln):=by
  intro o ho
  rw[TO.qW hag o ho]
  exact oF.refl _ _ _
 refine⟨Gh.rB (fun d v' hv'=>⟨v',hv',?_⟩) (fun x o' ho'=>?_) (oU hag s.df f4),?_,⟨rfl,rfl,rfl⟩⟩
 ·rw[qW hag v' (nl hv' f2)]
  exact CV.refl _ _ _
 ·have hx:x≠h:=fun e=>by subst e;rw[f1] at ho';cases ho'
  exact⟨o',by rw[←hst x hx];exact ho',hone o' (pi ho' f3)⟩
 ·intro d hh x hm
  obtain⟨h1,h2⟩:=tv hm
  obtain⟨i,bP,m,f',τ',l',a,e1,e2,e3⟩:=hl d hh x h1
  exact⟨i,bP,m,f',τ',l',a,e1,(hst hh h2).trans e2,e3⟩
def rH (s:ah S) (h:Nat):ah S:=match s.free h with
 | true=>s
 | false=>match (s.qd h).free h with
  | true=>s.qd h
  | false=>s
theorem Ib {s:ah S}(h:Nat) (hl:a5 s):Gh s.er (rH s h).er∧a5 (rH s h)∧bF s (rH s h):=by
 unfold rH
 split
 ·exact⟨Gh.refl _,hl,bF.refl s⟩
 ·split
  ·rename_i hf
   exact O4 hl hf
  ·exact⟨Gh.refl _,hl,bF.refl s⟩
theorem Rel.shrink {N:Nat}{cx:Cx}{s:St}{μ:Mu}{a:Act}{w:World}(hr:Rel N cx μ s a w){h d n c:Nat}{k:ap}(hk:aq s.st h=some k) (hp:k.pure=true) (hlp:k.lp=none) (hd:get s.fr d=some (.aR h k.sz 0 n)):
  Rel N cx μ {fr:=(d,.aR h k.sz 0 n)::ni h s.fr,st:=(h,{k with cells:=k.cells.take c})::gu h s.st,df:=s.df} a w:=by
 have key:∀x k1,aq ((h,{k with cells:=k.cells.take c})::gu h s.st) x=some k1→∃k0,aq s.st x=some k0:=by
  intro x k1 h1
  by_cases e:x=h
  ·subst e;exact⟨k,hk⟩
  ·rw[aD _ _ e] at h1
   obtain⟨k0,h2,_⟩:=dB h1
   exact⟨k0,h2⟩
 have hO:∀b,¬cx.O s.st μ b→¬cx.O ((h,{k with cells:=k.cells.take c})::gu h s.st) μ b:=by
  rintro b hn (ho | ⟨x,k1,c1,m,h1,h2,hi⟩)
  ·exact hn (.inl ho)
  ·obtain⟨k0,h3⟩:=key x k1 h1
   exact hn (.inr ⟨x,k0,c1,m,h3,h2,hi⟩)
 refine {st:={dc:=?_,cE:=?_,bU:=?_,ei:=?_,eg:=hr.st.eg,hb:=hr.st.hb,os:=hr.st.os,tape:=hr.st.tape,output:=hr.st.output,da:=hr.st.da},nd:=hr.nd.mono (Kept.refl _ _) (fun b _=>hO b),sz:=hr.sz,fr:=?_}
 ·intro x k1 h1
  by_cases e:x=h
  ·subst e
   rw[dv] at h1
   cases h1
   have h3:=hr.st.dc x k hk
   cases hm:μ x with
   | none=>rw[hm] at h3;exact .nil (by simp[h3.1]) hlp
   | some bm=>
    obtain⟨b,m⟩:=bm
    rw[hm] at h3
    obtain⟨cs,q1,q2,q3,q4,q5,q6⟩:=h3.cells hlp
    refine .mk hlp (h3.kn hlp) ⟨cs,q1,q2,by simp only[aX];omega,q4,q5,fun j g hg=>?_⟩
    have hg':k.cells[j]?=some g:=by
     have hg:(k.cells.take c)[j]?=some g:=hg
     rw[bf] at hg
     split at hg
     ·exact hg
     ·cases hg
    obtain⟨v,hv,hrv⟩:=q6 j g hg'
    refine⟨v,hv,?_⟩
    have:=hrv.mono (O':=cx.O ((x,{k with cells:=k.cells.take c})::gu x s.st) μ) (Kept.refl _ _) (fun b _=>hO b)
    unfold cz at this⊢
    exact this
  ·rw[aD _ _ e] at h1
   obtain⟨k0,h2,rfl⟩:=dB h1
   exact((hr.st.dc x k0 h2).mono (fun _ _ _ _ _=>rfl) (Kept.refl _ _) (fun b _=>hO b)).kill h fun _ _=>rfl
 ·intro x x' k1 k2 y b m b2 m2 h1 h2
  obtain⟨k0,h5⟩:=key x k1 h1
  obtain⟨k0',h5'⟩:=key x' k2 h2
  exact hr.st.cE x x' k0 k0' y b m b2 m2 h5 h5'
 ·intro x k1 b m y h1 h2 hi
  by_cases e:x=h
  ·subst e
   rw[dv] at h1
   cases h1
   exact hr.st.bU x k b m y hk h2 hi
  ·rw[aD _ _ e] at h1
   obtain⟨k0,h5,rfl⟩:=dB h1
   obtain⟨a1,a2,a3,a4⟩:=hr.st.bU x k0 b m y h5 h2 hi
   exact⟨a1,a2,a3,fun hm=>a4 (by cases hp:k0.pure <;> simp only[hp] at hm <;> exact hm)⟩
 ·intro x k1 h1 h2
  obtain⟨k0,h5⟩:=key x k1 h1
  exact hr.st.ei x k0 h5 h2
 ·intro t g hg
  rw[gH] at hg
  cases hb:Nat.beq d t with
  | true=>
   rw[hb] at hg
   cases hg
   have:=aa hb
   subst this
   obtain⟨v,hv,hrv⟩:=hr.fr d _ hd
   exact⟨v,hv,hrv.mono (Kept.refl _ _) (fun b _=>hO b) (az _)⟩
  | false=>
   rw[hb] at hg
   obtain⟨g0,h1,rfl⟩:=xy hg
   obtain⟨v,hv,hrv⟩:=hr.fr t g0 h1
   exact⟨v,hv,p5 (hrv.mono (Kept.refl _ _) (fun b _=>hO b) (az _)) fun k hk=>rfl⟩
def yD (s:ah S) (x:Operand){A:Type}(k:ah S→Option A):Option A:=
 match x with
 | .tmp t=>match bg s.bZ t with
  | some (.sub h τ 0 n)=>match aw s.st h with
   | some (.aV e m f τ' l)=>match decEq τ' τ with
    | isTrue _=>match !(gr h s.lo)&&(!(eL h s.bO)&&!(TV.has.go h s.df)) with
     | true=>(bo (n≤l.length)).bind fun _=>k ((s.renew h (.aV e m f τ' (l.take n))).put t (.aR h τ'))
     | false=>none
    | isFalse _=>none
   | _=>none
  | _=>k s
 | _=>k s
theorem yC {s:ah S}{x:Operand}{A:Type}{k:ah S→Option A}{r:A}(hl:a5 s) (h:yD s x k=some r):∃t,Gh s.er t.er∧a5 t∧bF s t∧k t=some r:=by
 unfold yD at h
 split at h
 ·rename_i t
  split at h
  ·rename_i hh τ n hx
   split at h
   ·rename_i e m f τ' l ho
    split at h
    ·rename_i e1 _
     subst e1
     split at h
     ·rename_i hc
      simp only[aj,a8] at hc
      obtain⟨hlo,hls,hdf⟩:=hc
      obtain⟨_,hck,hk⟩:=bind_some h
      have hn:n≤l.length:=cm hck
      refine⟨_,?_,(hl.renew hh (.aV e m f τ' (l.take n)) hlo hls).put t (.aR hh τ'),⟨rfl,rfl,rfl⟩,hk⟩
      obtain⟨e1,_,e3⟩:=G7 (.aV e m f τ' (l.take n)) rfl hdf hlo hls
      rw[fE,e1]
      have e4:(TV.aR hh τ':TV S).er (s.renew hh (.aV e m f τ' (l.take n))).ln=.aR hh (S.sz τ') 0 n:=by
       show G.aR _ _ _ ((s.renew hh _).ln hh)=_
       rw[e3]
       show G.aR _ _ _ (l.take n).length=_
       rw[aX,dy hn]
      rw[e4]
      have e5:(TO.aV e m f τ' (l.take n):TO S).er s.ln={(TO.aV e m f τ' l:TO S).er s.ln with cells:=((TO.aV e m f τ' l:TO S).er s.ln).cells.take (n*S.sz τ')}:=by
       show ap.mk _ _ _ _ _ _ _=ap.mk _ _ _ _ _ _ _
       have:List.flatMap (aN S τ') (l.take n)=(List.flatMap (aN S τ') l).take (n*S.sz τ'):=zr (fun a=>qX S τ' a) l n
       rw[this];rfl
      rw[e5]
      have e6:AM.get (gi s.ln s.bZ) t=some (G.aR hh (S.sz τ') 0 n):=by
       rw[fh hx]
       show some (G.aR _ _ (0*S.sz τ') _)=_
       rw[ey]
      intro N cx μ a w hr
      exact⟨μ,Rel.shrink hr (fM (dU ho)) rfl rfl e6,Gh.same fun x k1 b m' h1 h2=>by
       by_cases e:x=hh
       ·subst e;exact⟨_,fM (dU ho),h2⟩
       ·have h1:aq ((hh,_)::gu hh s.er.st) x=some k1:=h1
        rw[aD _ _ e] at h1
        obtain⟨k0,h3,_⟩:=dB h1
        exact⟨k0,h3,h2⟩⟩
     ·cases h
    ·cases h
   ·cases h
  ·exact⟨s,Gh.refl _,hl,bF.refl s,h⟩
 ·exact⟨s,Gh.refl _,hl,bF.refl s,h⟩
end
end Go.DN
/-
 DN,part Kc:copy.
-/
namespace Go.DN
open Go.AM
def iJ {α:Type}(l m:List α) (o n:Nat):List α:=l.take o++m.take (Nat.min m.length n)++l.drop (o+Nat.min m.length n)
theorem qg {α:Type}{l m:List α}{o n:Nat}(h:o+n≤l.length):(iJ l m o n).length=l.length:=by
 have h1:Nat.min m.length n≤m.length:=Nat.min_le_left _ _
 have h2:Nat.min m.length n≤n:=Nat.min_le_right _ _
 simp only[iJ,ak,aX,cr]
 omega
theorem xM {α:Type}{l m:List α}{o n:Nat}(h:Nat.min m.length n=0):iJ l m o n=l:=by
 unfold iJ
 rw[h,List.take_zero,cc,dq,List.take_append_drop]
section
variable {S:eE}
def F6 (ok:Nat→Bool) (s:ah S) (d h:Nat) (τ:Ty) (o n:Nat) (vy:TV S){A:Type}(k:ah S→Option A):Option A:=
 match ok h with
 | true=>match aw s.st h with
  | some (.aV e m f τ' l)=>match decEq τ' τ with
   | isTrue _=>match decEq (S.sz τ') 1 with
    | isTrue _=>match KG s h τ' vy with
     | some (fy,ml)=>KH s vy ((bo (o+n≤List.length l)).bind fun _=>
       k ((s.set h (.aV e m (f&&(fy||τ'.fZ)) τ' (iJ l ml o n))).put d (.ab true (.int .i64) (Nat.min (List.length ml) n:Nat))))
     | none=>none
    | isFalse _=>none
   | isFalse _=>none
  | _=>none
 | false=>none
def LG (P:Program) (ok:Nat→Bool) (s:ah S) (d:Nat) (c:Call){A:Type}(k:ah S→Option A):Option A:=
 match c.args.toList,c.argTypes.toList with
 | [x,y],[t,t']=>match P.underlying t with
  | some (.slice e)=>match decEq ((P.info? e).map (·.size)) (some 1) with
   | isTrue _=>match cn s y with
    | some vy=>match cn s x with
     | some (.aR h τ)=>match aw s.bi h with
      | some (.aV _ _ _ _ l)=>F6 ok s d h τ 0 (List.length l) vy k
      | _=>none
     | some (.sub h τ o n)=>F6 ok s d h τ o n vy k
     | _=>none
    | none=>none
   | isFalse _=>none
  | _=>none
 | _,_=>none
section
variable {P:Program}{W:List Nat}{s:ah S}{ty:TypeId}{pos:String}{after:Array Edge}{guard:Option (Nat×Bool)}{A:Type}{k:ah S→Option A}{r:A}
theorem uM {st:List (Nat×ap)}{h:Nat}{b:ap}(hb:aq st h=some b):bD st h b=st:=by
 induction st with
 | nil=>cases hb
 | cons x r ih=>
  obtain⟨y,g⟩:=x
  simp only[aq] at hb
  simp only[bD]
  cases hy:Nat.beq y h with
  | true=>rw[hy] at hb;cases hb;rfl
  | false=>rw[hy] at hb;rw[cond_false,ih hb]
theorem Mh {st:List (Nat×ap)}{h:Nat}{a b:ap}:bD (bD st h a) h b=bD st h b:=by
 induction st with
 | nil=>rfl
 | cons x r ih=>
  obtain⟨y,g⟩:=x
  simp only[bD]
  cases hy:Nat.beq y h with
  | true=>simp only[cond_true,bD,hy]
  | false=>simp only[cond_false,bD,hy,ih]
theorem IG {ok:Nat→Bool}(hokW:∀h,ok h=true→W.contains h=true){d h o n:Nat}{τ:Ty}{t t' e0:TypeId}{x y:Operand}{vy:TV S}(hl:a5 s) (hx:ev s.er x=some (.aR h (S.sz τ) (o*S.sz τ) n)) (hy:cn s y=some vy)
  (ht:P.underlying t=some (.slice e0)) (hi:(P.info? e0).map (·.size)=some 1) (hk:F6 ok s d h τ o n vy k=some r):
  fC P W s ⟨some d,.call ⟨.builtin .copy,#[x,y],#[t,t']⟩,ty,pos,after,guard⟩ k r:=by
 unfold F6 at hk
 split at hk
 ·rename_i hW
  split at hk
  ·rename_i e m f τ' l ho
   split at hk
   ·rename_i e1 _
    subst e1
    split at hk
    ·rename_i hsz _
     split at hk
     ·rename_i fy ml hsr
      obtain⟨g1,g2,hk⟩:=Jl hsr hk
      obtain⟨u,hck,hk⟩:=bind_some hk
      have c1:=cm hck
      have ho':=cQ (dU ho)
      have hx':ev s.er x=some (.aR h 1 o n):=by rw[hx,hsz,ed]
      have hlen:(List.flatMap (aN S τ') l).length=l.length:=by rw[eR,hsz,ed]
      have hlenm:(List.flatMap (aN S τ') ml).length=ml.length:=by rw[eR,hsz,ed]
      have tk:∀(l:List (S.D τ')) (i:Nat),(List.flatMap (aN S τ') l).take i=List.flatMap (aN S τ') (l.take i):=fun l i=>by
       have:=nU τ' l i;rwa[hsz,ed] at this
      have dp:∀(l:List (S.D τ')) (i:Nat),(List.flatMap (aN S τ') l).drop i=List.flatMap (aN S τ') (l.drop i):=fun l i=>by
       have:=nV τ' l i;rwa[hsz,ed] at this
      have hc:(List.flatMap (aN S τ') l).take o++(List.flatMap (aN S τ') ml).take (Nat.min ml.length n)++(List.flatMap (aN S τ') l).drop (o+Nat.min ml.length n)=List.flatMap (aN S τ') (iJ l ml o n):=by
       rw[tk,tk,dp,←iI,←iI];rfl
      have hln:(TO.aV e m (f&&(fy||τ'.fZ)) τ' (iJ l ml o n):TO S).len=(TO.aV e m f τ' l:TO S).len:=qg c1
      obtain⟨e2,e3⟩:=lc (o':=.aV e m (f&&(fy||τ'.fZ)) τ' (iJ l ml o n)) ho hln
      refine⟨_,EF.copy (f:=fy) hx' (bh hy) ho' rfl (by show o+n≤(List.flatMap (aN S τ') l).length;rw[hlen];exact c1) (by rw[←hsz];exact g1) (by rw[hlenm,ed]) (fun g hg=>by
       obtain⟨a,ha,hg⟩:=ib.1 hg
       exact py S τ' a g hg) ht hi (hokW h hW) rfl,fun s' hs'=>⟨_,?_,(hl.set ho _).put _ _,⟨rfl,rfl,rfl⟩,hk⟩⟩
      rcases hs' with hs' | ⟨h0,hs'⟩
      ·subst hs'
       rw[fE,e2]
       show Gh ⟨(d,.val (.int .i64 ((Nat.min ml.length n:Nat):Int)))::s.er.fr,bD s.er.st h ⟨e,true,m,f&&fy,S.sz τ',(List.flatMap (aN S τ') l).take o++(List.flatMap (aN S τ') ml).take (Nat.min ml.length n)++(List.flatMap (aN S τ') l).drop (o+Nat.min ml.length n),none⟩,s.er.df⟩ ⟨(d,.val (.int .i64 ((Nat.min ml.length n:Nat):Int)))::s.er.fr,bD s.er.st h ⟨e,true,m,f&&(fy||τ'.fZ),S.sz τ',List.flatMap (aN S τ') (iJ l ml o n),none⟩,s.er.df⟩
       rw[hc]
       cases hs:τ'.fZ with
       | false=>rw[Bool.or_false];exact Gh.refl _
       | true=>
        cases f with
        | false=>exact Gh.refl _
        | true=>
         rw[Bool.or_true,Bool.true_and,Bool.true_and]
         have hk1:aq (bD s.er.st h (⟨e,true,m,fy,S.sz τ',List.flatMap (aN S τ') (iJ l ml o n),none⟩:ap)) h=some ⟨e,true,m,fy,S.sz τ',List.flatMap (aN S τ') (iJ l ml o n),none⟩:=fg ho'
         have:=Gh.fZ (S:=S) (s:=⟨(d,.val (.int .i64 ((Nat.min ml.length n:Nat):Int)))::s.er.fr,bD s.er.st h (⟨e,true,m,fy,S.sz τ',List.flatMap (aN S τ') (iJ l ml o n),none⟩:ap),s.er.df⟩) hs hk1 rfl rfl rfl
         rw[Mh] at this
         exact this
      ·subst hs'
       rw[fE,e2]
       have hval:(TV.ab true (.int .i64) ((Nat.min ml.length n:Nat):Int):TV S).er (s.set h (.aV e m (f&&(fy||τ'.fZ)) τ' (iJ l ml o n))).ln=.val (.int .i64 0):=by rw[h0];rfl
       rw[hval]
       refine Gh.gen (s:=s.er.put d (.val (.int .i64 0))) (fun x g' hg=>⟨g',hg,CV.refl _ _ _⟩) (fun x k' hk'=>?_) rfl
       rcases cI ho' hk' with ⟨rfl,rfl⟩ | ⟨_,hk'⟩
       ·refine⟨_,ho',rfl,id,rfl,rfl,rfl,?_,.inl ⟨rfl,?_,fun hf=>by simp[TO.er] at hf;exact .inl hf.1⟩⟩
        ·show(List.flatMap (aN S τ') (iJ l ml o n)).length=(List.flatMap (aN S τ') l).length
         rw[xM h0]
        ·show List.flatMap (aN S τ') (iJ l ml o n)=List.flatMap (aN S τ') l
         rw[xM h0]
       ·exact⟨k',hk',oF.refl _ _ _⟩
     ·cases hk
    ·cases hk
   ·cases hk
  ·cases hk
 ·cases hk
theorem O8 {ok:Nat→Bool}(hokW:∀h,ok h=true→W.contains h=true){d:Nat}{args:Array Operand}{ts:Array TypeId}(hl:a5 s) (h:LG P ok s d ⟨.builtin .copy,args,ts⟩ k=some r):
  fC P W s ⟨some d,.call ⟨.builtin .copy,args,ts⟩,ty,pos,after,guard⟩ k r:=by
 unfold LG at h
 dsimp only at h
 split at h
 ·rename_i h1 h2
  have h1:=mn h1
  have h2:=mn h2
  subst h1;subst h2
  split at h
  ·rename_i hu
   split at h
   ·rename_i hi _
    split at h
    ·rename_i hy
     split at h
     ·rename_i hh τ hx
      split at h
      ·rename_i ho
       refine IG hokW hl ?_ hy hu hi h
       rw[bh hx,ey]
       show some (G.aR _ _ _ (s.ln hh))=_
       rw[mf ho]
      ·cases h
     ·rename_i hx
      exact IG hokW hl (bh hx) hy hu hi h
     ·cases h
    ·cases h
   ·cases h
  ·cases h
 ·cases h
end
end
end Go.DN
/-
 DN,part Kf:append within an object,clear.
-/
namespace Go.AM
theorem LY {α:Type}[aL α]{x:α}{z:Array Value}(hzs:z.size=aL.sz α) (he:z.toList.map iE=aL.cells x) (n:Nat):(Builtin.zeroCells z n).toList.map iE=c8 (List.replicate n x):=by
 have hpos:0<aL.sz α:=aL.pos
 apply kF
 intro j
 unfold c8
 rw[oA aL.cells (aL.sz α) hpos (List.replicate n x) (fun a _=>aL.len a) j,ff]
 by_cases hj:j/aL.sz α<n
 ·rw[if_pos hj,ae,←he]
  have hjn:j<n*aL.sz α:=(Nat.div_lt_iff_lt_mul hpos).1 hj
  have hlt:j%aL.sz α<z.size:=by rw[hzs];exact mP _ hpos
  have e1:z[j%aL.sz α]! =z[j%aL.sz α]:=by simp[hlt]
  have e2:z[j%aL.sz α]?=some z[j%aL.sz α]:=kw hlt
  simp only[Builtin.zeroCells,hzs,en,Array.toList_range,ay,iL hjn,bL,bq,e1,e2]
 ·rw[if_neg hj,Option.bind_none]
  have hjn:¬j<n*aL.sz α:=fun h=>hj ((Nat.div_lt_iff_lt_mul hpos).2 h)
  simp[Builtin.zeroCells,hzs,hjn]
end Go.AM
namespace Go.DN
open Go.AM
section
variable {S:eE}
def RL (s:ah S):List Operand→Bool
 | [x,y]=>match cn s x with
  | some (.sub h _ _ _)=>match cn s y with
   | some (.sub h2 _ _ _)=>Nat.beq h2 h
   | _=>false
  | _=>false
 | _=>false
def IT (P:Program) (ok:Nat→Bool) (s:ah S) (d:Nat) (c:Call){A:Type}(k:ah S→Option A):Option A:=
 match c.args.toList,c.argTypes.toList with
 | [x,y],[t,t']=>match decEq t t' with
  | isFalse _=>none
  | isTrue _=>match P.underlying t with
   | some (.slice e0)=>match cn s x with
    | some (.sub h τ o0 n)=>match cn s y with
     | some (.sub h2 τ2 o m)=>match decEq h2 h with
      | isFalse _=>none
      | isTrue _=>match ok h with
       | false=>none
       | true=>match aw s.st h with
        | some (.aV e mi f τ' l)=>match decEq τ' τ,decEq e e0,decEq τ' τ2 with
         | isTrue _,isTrue _,isTrue _=>match decEq ((P.info? e0).map (·.size)) (some (S.sz τ')) with
          | isTrue _=>(bo (o0=0∧n+m≤List.length l∧o+m≤List.length l)).bind fun _=>
           k ((s.set h (.aV e mi f τ' (iJ l ((List.drop o l).take m) n m))).put d (.sub h τ 0 (n+m)))
          | isFalse _=>none
         | _,_,_=>none
        | _=>none
     | _=>none
    | _=>none
   | _=>none
 | _,_=>none
def IJ (P:Program) (ok:Nat→Bool) (s:ah S) (c:Call){A:Type}(k:ah S→Option A):Option A:=
 match c.args.toList,c.argTypes.toList with
 | [x],[t]=>match P.underlying t with
  | some (.slice e0)=>match cn s x with
   | some (.sub h τ o n)=>match ok h with
    | false=>none
    | true=>match aw s.st h with
     | some (.aV e mi f τ' l)=>match decEq τ' τ with
      | isTrue _=>match P.info? e0 with
       | some i=>match i.zero with
        | some z=>match FK τ' z with
         | some a=>(bo (o+n≤List.length l)).bind fun _=>k (s.set h (.aV e mi f τ' (iJ l (List.replicate n a) o n)))
         | none=>none
        | none=>none
       | none=>none
      | isFalse _=>none
     | _=>none
   | _=>none
  | _=>none
 | _,_=>none
section
variable {P:Program}{W:List Nat}{s:ah S}{ty:TypeId}{pos:String}{after:Array Edge}{guard:Option (Nat×Bool)}{A:Type}{k:ah S→Option A}{r:A}
theorem NI {ok:Nat→Bool}(hokW:∀h,ok h=true→W.contains h=true){d:Nat}{args:Array Operand}{ts:Array TypeId}(hl:a5 s) (h:IT P ok s d ⟨.builtin .append,args,ts⟩ k=some r):
  fC P W s ⟨some d,.call ⟨.builtin .append,args,ts⟩,ty,pos,after,guard⟩ k r:=by
 unfold IT at h
 dsimp only at h
 split at h
 ·rename_i x y t t' h1 h2
  have h1:=mn h1
  have h2:=mn h2
  subst h1;subst h2
  split at h
  ·cases h
  ·rename_i e1 _
   subst e1
   split at h
   ·rename_i e0 hu
    split at h
    ·rename_i hh τ o0 n hx
     split at h
     ·rename_i h2 τ2 o m hy
      split at h
      ·cases h
      ·rename_i e1 _
       subst e1
       split at h
       ·cases h
       ·rename_i hW
        split at h
        ·rename_i e mi f τ' l ho
         split at h
         ·rename_i e1 e2 e3 _ _ _
          subst e1;subst e2;subst e3
          split at h
          ·rename_i hi _
           obtain⟨u,hck,hkk⟩:=bind_some h
           obtain⟨c0,c1,c2⟩:=cm hck
           subst c0
           have ho':=cQ (dU ho)
           have hs0:0<S.sz τ':=@aL.pos _ (jG S τ')
           have hx':ev s.er x=some (.aR h2 (S.sz τ') 0 n):=by have:=bh hx;rw[this];show some (G.aR _ _ (0*_) _)=_;rw[ey]
           have hlm:((l.drop o).take m).length=m:=by rw[aX,cr];omega
           have hmin:Nat.min ((l.drop o).take m).length m=m:=by rw[hlm];exact Nat.min_self m
           have hcut:((List.flatMap (aN S τ') l).drop (o*S.sz τ')).take (m*S.sz τ')=List.flatMap (aN S τ') ((l.drop o).take m):=by rw[nV,nU]
           have hc:(List.flatMap (aN S τ') l).take (n*S.sz τ')++List.flatMap (aN S τ') ((l.drop o).take m)++(List.flatMap (aN S τ') l).drop (n*S.sz τ'+(List.flatMap (aN S τ') ((l.drop o).take m)).length)=List.flatMap (aN S τ') (iJ l ((l.drop o).take m) n m):=by
            rw[eR,hlm,←dD,nU,nV,←iI,←iI]
            unfold iJ
            rw[hmin]
            congr 3
            exact(b8 (by omega)).symm
           have hln:(TO.aV e mi f τ' (iJ l ((l.drop o).take m) n m):TO S).len=(TO.aV e mi f τ' l:TO S).len:=qg c1
           obtain⟨e2,e3⟩:=lc (o':=.aV e mi f τ' (iJ l ((l.drop o).take m) n m)) ho hln
           have hgs:oT s.er.st (S.sz τ') (.aR h2 (S.sz τ') (o*S.sz τ') m)=some (List.flatMap (aN S τ') ((l.drop o).take m),m,f):=by
            simp only[oT,ho']
            show some (_,m,f)=_
            exact congrArg (fun q=>some (q,m,f)) hcut
           refine⟨_,EF.Pq (f:=f) (newsG:=List.flatMap (aN S τ') ((l.drop o).take m)) (m:=m) (gy:=.aR h2 (S.sz τ') (o*S.sz τ') m) hx' (bh hy) ho' rfl rfl (by show _≤(List.flatMap (aN S τ') l).length;rw[eR];exact b7 _ c1) hs0 hgs (by rw[eR,hlm]) (fun g hg=>by
            obtain⟨a,ha,hg⟩:=ib.1 hg
            exact py S τ' a g hg) hu hi (hokW h2 hW) rfl,fun s' hs'=>⟨_,?_,(hl.set ho _).put _ _,⟨rfl,rfl,rfl⟩,hkk⟩⟩
           have hval:∀q,(TV.sub h2 τ' 0 q:TV S).er (s.set h2 (.aV e mi f τ' (iJ l ((l.drop o).take m) n m))).ln=.aR h2 (S.sz τ') 0 q:=fun q=>by show G.aR _ _ (0*_) _=_;rw[ey]
           rcases hs' with hs' | ⟨h0,hs'⟩
           ·subst hs'
            rw[fE,e2,hval]
            show Gh ⟨(d,.aR h2 (S.sz τ') 0 (n+m))::s.er.fr,bD s.er.st h2 ⟨e,true,mi,f&&f,S.sz τ',(List.flatMap (aN S τ') l).take (n*S.sz τ')++List.flatMap (aN S τ') ((l.drop o).take m)++(List.flatMap (aN S τ') l).drop (n*S.sz τ'+(List.flatMap (aN S τ') ((l.drop o).take m)).length),none⟩,s.er.df⟩ ⟨(d,.aR h2 (S.sz τ') 0 (n+m))::s.er.fr,bD s.er.st h2 ⟨e,true,mi,f,S.sz τ',List.flatMap (aN S τ') (iJ l ((l.drop o).take m) n m),none⟩,s.er.df⟩
            rw[hc,fK]
            exact Gh.refl _
           ·subst hs'
            subst h0
            rw[fE,e2,hval,xM hmin]
            have:=uM ho'
            show Gh ⟨(d,.aR h2 (S.sz τ') 0 n)::s.er.fr,s.er.st,s.er.df⟩ ⟨(d,.aR h2 (S.sz τ') 0 n)::s.er.fr,bD s.er.st h2 (TO.er s.ln (.aV e mi f τ' l)),s.er.df⟩
            rw[uM ho']
            exact Gh.refl _
          ·cases h
         ·cases h
        ·cases h
     ·cases h
    ·cases h
   ·cases h
 ·cases h
theorem NA {ok:Nat→Bool}(hokW:∀h,ok h=true→W.contains h=true){args:Array Operand}{ts:Array TypeId}(hl:a5 s) (h:IJ P ok s ⟨.builtin .clear,args,ts⟩ k=some r):
  fC P W s ⟨none,.call ⟨.builtin .clear,args,ts⟩,ty,pos,after,guard⟩ k r:=by
 unfold IJ at h
 dsimp only at h
 split at h
 ·rename_i x t h1 h2
  have h1:=zV h1
  have h2:=zV h2
  subst h1;subst h2
  split at h
  ·rename_i e0 hu
   split at h
   ·rename_i hh τ o n hx
    split at h
    ·cases h
    ·rename_i hW
     split at h
     ·rename_i e mi f τ' l ho
      split at h
      ·rename_i e1 _
       subst e1
       split at h
       ·rename_i i hi
        split at h
        ·rename_i z hz
         split at h
         ·rename_i a ha
          obtain⟨u,hck,h⟩:=bind_some h
          have c1:=cm hck
          obtain⟨z1,z2⟩:=Gb ha
          have ho':=cQ (dU ho)
          have hln:(TO.aV e mi f τ' (iJ l (List.replicate n a) o n):TO S).len=(TO.aV e mi f τ' l:TO S).len:=qg c1
          obtain⟨e2,e3⟩:=lc (o':=.aV e mi f τ' (iJ l (List.replicate n a) o n)) ho hln
          have hze:(Builtin.zeroCells z.cells n).toList.map iE=List.flatMap (aN S τ') (List.replicate n a):=by
           letI:=jG S τ'
           exact LY (α:=S.D τ') z2 z1 n
          have hmin:Nat.min (List.replicate n a).length n=n:=by rw[eY];exact Nat.min_self n
          have hc:(List.flatMap (aN S τ') l).take (o*S.sz τ')++(Builtin.zeroCells z.cells n).toList.map iE++(List.flatMap (aN S τ') l).drop (o*S.sz τ'+n*S.sz τ')=List.flatMap (aN S τ') (iJ l (List.replicate n a) o n):=by
           rw[hze,←dD,nU,nV,←iI,←iI]
           unfold iJ
           rw[hmin]
           congr 3
           exact(b8 (by rw[eY];exact az _)).symm
          refine⟨_,EF.clear (bh hx) ho' rfl (by show _≤(List.flatMap (aN S τ') l).length;rw[eR,←dD];exact b7 _ c1) hu (by rw[hi,bL,hz]) z2 (fun i v hv=>by
           have:iE v∈aN S τ' a:=by
            rw[←z1]
            exact gS.2 ⟨v,ar (by rw[bq];exact hv),rfl⟩
           have:=py S τ' a _ this
           unfold iE at this
           split at this
           ·rfl
           ·exact this) (hokW hh hW) rfl,fun s' hs'=>⟨_,?_,hl.set ho _,⟨rfl,rfl,rfl⟩,h⟩⟩
          rw[e2]
          rcases hs' with hs' | ⟨h0,hs'⟩
          ·subst hs'
           show Gh ⟨s.er.fr,bD s.er.st hh ⟨e,true,mi,f&&true,S.sz τ',(List.flatMap (aN S τ') l).take (o*S.sz τ')++(Builtin.zeroCells z.cells n).toList.map iE++(List.flatMap (aN S τ') l).drop (o*S.sz τ'+n*S.sz τ'),none⟩,s.er.df⟩ ⟨s.er.fr,bD s.er.st hh ⟨e,true,mi,f,S.sz τ',List.flatMap (aN S τ') (iJ l (List.replicate n a) o n),none⟩,s.er.df⟩
           rw[hc,jb]
           exact Gh.refl _
          ·subst hs'
           subst h0
           rw[xM hmin]
           show Gh ⟨s.er.fr,s.er.st,s.er.df⟩ ⟨s.er.fr,bD s.er.st hh (TO.er s.ln (.aV e mi f τ' l)),s.er.df⟩
           rw[uM ho']
           exact Gh.refl _
         ·cases h
        ·cases h
       ·cases h
      ·cases h
     ·cases h
   ·cases h
  ·cases h
 ·cases h
end
end
end Go.DN
/-
 DN,part Kg:slices of structs of slices:made;one of the slices is taken out,and put in.
-/
namespace Go.DN
open Go.AM
theorem flat_get {α β:Type}(f:α→List β){n:Nat}(hn:∀a,(f a).length=n){j:Nat}(hj:j<n):∀(l:List α) (i:Nat),(l.flatMap f)[i*n+j]?=(l[i]?).bind fun a=>(f a)[j]?
 | [],i=>by simp
 | a::l,0=>by
  rw[cp,ey,bT,cH (by rw[hn];exact hj)]
  rfl
 | a::l,i+1=>by
  rw[cp,cV (by rw[hn,Nat.succ_mul];omega),hn,show(i+1)*n+j-n=i*n+j by rw[Nat.succ_mul];omega,flat_get f hn hj l i]
  rfl
section
variable {S:eE}
variable {P:Program}{W:List Nat}{ok:Nat→Bool}{s:ah S}{ty:TypeId}{pos:String}{after:Array Edge}{guard:Option (Nat×Bool)}{A:Type}{k:ah S→Option A}{r:A}
def QA (S:eE) (P:Program) (t:TypeId):Bool:=match P.underlying t with
 | some (.slice e)=>(S.S3 e).isSome
 | _=>false
def D1 (P:Program) (s:ah S) (d:Nat) (t:TypeId) (x y:Operand){A:Type}(k:ah S→Option A):Option A:=
 none
theorem K6 {d:Nat}{t:TypeId}{x y:Operand}(hl:a5 s) (h:D1 P s d t x y k=some r):fC P W s ⟨some d,.makeSlice t x y,ty,pos,after,guard⟩ k r:=by
 unfold D1 at h
 cases h
def D7 (s:ah S) (op:Op):Bool:=match op with
 | .load _ x=>match cn s x with
  | some (.gK h _ _ _)=>HW s h
  | _=>false
 | _=>false
def DL (P:Program) (ok:Nat→Bool) (s:ah S) (d:Nat) (t:TypeId) (x:Operand){A:Type}(k:ah S→Option A):Option A:=
 none
theorem KM (hokW:∀h,ok h=true→W.contains h=true){d:Nat}{t:TypeId}{x:Operand}(hl:a5 s) (h:DL P ok s d t x k=some r):fC P W s ⟨some d,.load t x,ty,pos,after,guard⟩ k r:=by
 unfold DL at h
 cases h
def G0 (P:Program) (ok:Nat→Bool) (s:ah S) (t:TypeId) (x y:Operand){A:Type}(k:ah S→Option A):Option A:=
 none
theorem Mx (hokW:∀h,ok h=true→W.contains h=true){t:TypeId}{x y:Operand}(hl:a5 s) (h:G0 P ok s t x y k=some r):fC P W s ⟨none,.store t x y,ty,pos,after,guard⟩ k r:=by
 unfold G0 at h
 cases h
end
end Go.DN
/-
 DN,part Kh:maps are made,get an entry more;a slice of one of the structs grows.
-/
namespace Go.DN
open Go.AM
section
variable {S:eE}
def SD (P:Program) (t:TypeId):Option (IntKind×TypeId×TypeId):=
 match P.underlying t with
 | some (.map kt et)=>match P.underlying kt,P.underlying et with
  | some (.struct fs),some (.pointer tt)=>match P.underlying tt with
   | some (.struct gs)=>match fs.toList,gs.toList with
    | f0::_,g0::_=>match P.underlying f0.type,P.underlying g0.type with
     | some (.int q),some (.slice e)=>some (q,e,tt)
     | _,_=>none
    | _,_=>none
   | _=>none
  | _,_=>none
 | _=>none
def HA (P:Program) (s:ah S) (d:Nat) (t:TypeId) (n:Option Operand){A:Type}(k:ah S→Option A):Option A:=
 match n with
 | none=>match s.free (s.cR d) with
  | true=>match SD P t with
   | some (q,kty,tty)=>k ((s.add (s.cR d) (.deep 0 true true (.map q kty tty) .map ⟨0,[],none⟩)).put d (.mp (s.cR d)))
   | none=>none
  | false=>none
 | some _=>none
def TV.rk (q:IntKind) (h2 h n:Nat):TV S→TV S
 | .loc x off=>bif Nat.beq x h2 then .kp h (.list (.int q)) n off else .loc x off
 | v=>match v.has h2 with | true=>.any | false=>v
def MA (q:IntKind) (h2 h n:Nat):List (Nat×TV S)→List (Nat×TV S)
 | []=>[]
 | (t,v)::r=>(t,v.rk q h2 h n)::MA q h2 h n r
def TO.rk (q:IntKind) (h2 h n:Nat):TO S→TO S
 | .box e m cs=>.box e m (cs.map (TV.rk q h2 h n))
 | .lp l m cs=>.lp l m (cs.map (TV.rk q h2 h n))
 | o=>o
def G4 (q:IntKind) (h2 h n:Nat):List (Nat×TO S)→List (Nat×TO S)
 | []=>[]
 | (t,o)::r=>bif Nat.beq t h2 then G4 q h2 h n r else(t,o.rk q h2 h n)::G4 q h2 h n r
def ah.rk (s:ah S) (q:IntKind) (h2 h n:Nat) (o:TO S):ah S:={s with fr:=MA q h2 h n s.fr,st:=(h,o)::G4 q h2 h n s.st,last:=[]}
theorem KP {q:IntKind}{h2 h n:Nat}{v:TV S}(hv:v.has h2=false):v.rk q h2 h n=v:=by
 cases v with
 | loc x off=>
  show(bif Nat.beq x h2 then _ else _)=_
  rw[show Nat.beq x h2=false from hv];rfl
 | _=>simp only[TV.rk,hv]
theorem G3 {q:IntKind}{h2 h n:Nat}:∀{l:List (TV S)},TV.has.go h2 l=false→l.map (TV.rk q h2 h n)=l
 | [],_=>rfl
 | v::r,e=>by
  simp only[TV.has.go,bI] at e
  rw[aJ,KP e.1,G3 e.2]
theorem Rp (q:IntKind) (h2 h n:Nat) (o:TO S):(o.rk q h2 h n).len=o.len:=by cases o <;> rfl
theorem Gs {q:IntKind}{h2 h n:Nat}:∀{fr:List (Nat×TV S)}{d:Nat},bg (MA q h2 h n fr) d=(bg fr d).map (TV.rk q h2 h n)
 | [],_=>rfl
 | (t,v)::r,d=>by
  simp only[MA,bg]
  cases Nat.beq t d with
  | true=>rfl
  | false=>exact Gs
theorem Bq {q:IntKind}{h2 h n:Nat}:∀{st:List (Nat×TO S)}{x:Nat},aw (G4 q h2 h n st) x=bif Nat.beq x h2 then none else(aw st x).map (TO.rk q h2 h n)
 | [],x=>by simp only[G4,aw,Option.map_none];cases Nat.beq x h2 <;> rfl
 | (t,o)::r,x=>by
  simp only[G4]
  cases hm:Nat.beq t h2 with
  | true=>
   simp only[cond_true]
   rw[Bq]
   simp only[aw]
   cases hb:Nat.beq t x with
   | true=>
    have:=aa hb
    subst this
    rw[hm];rfl
   | false=>rfl
  | false=>
   simp only[aw,cond_false]
   cases hb:Nat.beq t x with
   | true=>
    have:=aa hb
    subst this
    rw[hm];rfl
   | false=>exact Bq
theorem Mz {s:ah S}{q:IntKind}{h h2 n:Nat}{o:TO S}(hi:inner s [h2]=true) (x:Nat):aw (s.rk q h2 h n o).bi x=bif Nat.beq h x then some o else bif Nat.beq x h2 then none else(aw s.bi x).map (TO.rk q h2 h n):=by
 obtain⟨i1,i2,i3,i4⟩:=je hi h2 au
 show aw ((h,o)::(G4 q h2 h n s.st++s.bO)) x=_
 simp only[aw]
 cases hb:Nat.beq h x with
 | true=>rfl
 | false=>
  simp only[cond_false]
  rw[di,Bq]
  show _=bif Nat.beq x h2 then none else(aw (s.st++s.bO) x).map (TO.rk q h2 h n)
  rw[di]
  cases hm:Nat.beq x h2 with
  | true=>
   have:=aa hm
   subst this
   exact i1
  | false=>
   simp only[cond_false]
   cases h1:aw s.st x with
   | some o=>rfl
   | none=>
    show aw s.bO x=(aw s.bO x).map _
    cases h3:aw s.bO x with
    | none=>rfl
    | some o2=>
     rw[bL]
     have hn:o2.has h2=false:=pi h3 i4
     cases o2 with
     | box e m cs=>simp only[TO.rk];rw[G3 (l:=cs) hn]
     | lp l n cs=>simp only[TO.rk];rw[G3 (l:=cs) hn]
     | _=>rfl
theorem Rq {s:ah S}{q:IntKind}{h h2 n:Nat}{o:TO S}(hi:inner s [h2]=true) (d:Nat):bg (s.rk q h2 h n o).bZ d=(bg s.bZ d).map (TV.rk q h2 h n):=by
 show bg (MA q h2 h n s.fr++s.lo) d=(bg (s.fr++s.lo) d).map _
 rw[j5,j5,Gs]
 cases bg s.fr d with
 | some v=>rfl
 | none=>
  show bg s.lo d=(bg s.lo d).map _
  cases h3:bg s.lo d with
  | none=>rfl
  | some v=>rw[bL,KP (nl h3 (je hi h2 au).2.2.1)]
theorem AR {rn:G→G}:∀{fr:List (Nat×G)}{t:Nat}{g:G},AM.get fr t=some g→AM.get (vD rn fr) t=some (rn g)
 | [],_,_,e=>by cases e
 | (k,g')::r,t,g,e=>by
  simp only[AM.get] at e
  simp only[vD,aJ,AM.get]
  cases hb:Nat.beq k t with
  | true=>rw[hb] at e;cases e;rfl
  | false=>rw[hb] at e;exact AR e
theorem Su {s:ah S}{q:IntKind}{h h2 n:Nat}{o o':TO S}{s1:St}(ho:aw s.st h=some o) (hlen:o'.len=o.len) (hln:∀ln ln',o'.er ln=o'.er ln') (hi:inner s [h2]=true) (hne:h2≠h)
  (h1:s1.fr=vD (l8 h2 h n) s.er.fr) (hst:aq s1.st h=some (o'.er s.ln)) (h3:∀x k0,x≠h→x≠h2→aq s.er.st x=some k0→aq s1.st x=some (vU (l8 h2 h n) k0)) (h4:s1.df=s.er.df):
  Gh s1 (s.rk q h2 h n o').er∧a5 (s.rk q h2 h n o')∧bF s (s.rk q h2 h n o'):=by
 have hag:∀x,x≠h2→s.ln x=(s.rk q h2 h n o').ln x:=by
  intro x hx
  show b6 s.bi x=b6 (s.rk q h2 h n o').bi x
  unfold b6
  rw[Mz hi]
  cases hb:Nat.beq h x with
  | true=>
   have:=aa hb
   subst this
   rw[dU ho];exact hlen.symm
  | false=>
   have hm:Nat.beq x h2=false:=by
    cases hm:Nat.beq x h2 with
    | false=>rfl
    | true=>exact absurd (aa hm) hx
   rw[hm]
   simp only[cond_false]
   cases aw s.bi x with
   | none=>rfl
   | some o=>exact(Rp q h2 h n o).symm
 have hcv:∀v:TV S,CV s1.st (s.rk q h2 h n o').er.st (l8 h2 h n (v.er s.ln)) ((v.rk q h2 h n).er (s.rk q h2 h n o').ln):=by
  intro v
  cases hv:v.has h2 with
  | false=>
   rw[KP hv,G5 _ (by rw[ub];exact hv),oY (ln:=s.ln) (ln':=(s.rk q h2 h n o').ln) v fun k hk=>hag k fun hm=>by subst hm;rw[hv] at hk;cases hk]
   exact CV.refl _ _ _
  | true=>
   cases v with
   | loc x off=>
    have hv:Nat.beq x h2=true:=hv
    have e1:(TV.loc x off:TV S).rk q h2 h n=.kp h (.list (.int q)) n off:=by
     show(bif Nat.beq x h2 then _ else _)=_
     rw[hv];rfl
    have e2:l8 h2 h n ((TV.loc x off:TV S).er s.ln)=.kp h n off:=by
     show(bif Nat.beq x h2 then _ else _)=_
     rw[hv];rfl
    rw[e1,e2]
    have:(TV.kp h (.list (.int q)) n off:TV S).er (s.rk q h2 h n o').ln=.kp h n off:=by
     show G.kp h n (off*1)=_
     rw[ed]
    rw[this]
    exact CV.refl _ _ _
   | _=>
    simp only[TV.rk,hv]
    exact CV.any _ _ _
 have hcvL:∀cs:List (TV S),I3 s1.st (s.rk q h2 h n o').er.st ((TV.er.go s.ln cs).map (l8 h2 h n)) (TV.er.go (s.rk q h2 h n o').ln (cs.map (TV.rk q h2 h n))):=by
  intro cs
  induction cs with
  | nil=>exact⟨rfl,fun j g' hg'=>by simp[TV.er.go] at hg'⟩
  | cons v r ih=>
   refine⟨by simp only[aJ,TV.er.go,bA,ih.1],fun j g' hg'=>?_⟩
   simp only[aJ,TV.er.go] at hg'⊢
   cases j with
   | zero=>cases hg';exact⟨_,rfl,hcv v⟩
   | succ j=>exact ih.2 j g' hg'
 refine⟨Gh.gen (fun d g' hg'=>?_) (fun x k' hk'=>?_) ?_,gJ rfl,⟨rfl,rfl,rfl⟩⟩
 ·obtain⟨v',e1,rfl⟩:=xz hg'
  rw[Rq hi] at e1
  obtain⟨v,e2,rfl⟩:=av.1 e1
  refine⟨l8 h2 h n (v.er s.ln),?_,hcv v⟩
  rw[h1]
  exact AR (fh e2)
 ·obtain⟨o2,e1,rfl⟩:=pk hk'
  rw[Mz hi] at e1
  cases hb:Nat.beq h x with
  | true=>
   rw[hb] at e1
   cases e1
   have:=aa hb
   subst this
   refine⟨_,hst,?_⟩
   rw[hln (s.rk q h2 h n o').ln s.ln]
   exact oF.refl _ _ _
  | false=>
   rw[hb] at e1
   simp only[cond_false] at e1
   cases hm:Nat.beq x h2 with
   | true=>rw[hm] at e1;cases e1
   | false=>
    rw[hm] at e1
    simp only[cond_false] at e1
    obtain⟨o3,e2,rfl⟩:=av.1 e1
    refine⟨_,h3 x _ (fun e=>by subst e;rw[aI] at hb;cases hb) (fun e=>by subst e;rw[aI] at hm;cases hm) (fM e2),?_⟩
    cases o3 with
    | box e m cs=>exact⟨rfl,id,rfl,rfl,rfl,(hcvL cs).1,.inr ⟨rfl,(hcvL cs).2⟩⟩
    | lp l n cs=>exact⟨rfl,id,rfl,rfl,rfl,(hcvL cs).1,.inr ⟨rfl,(hcvL cs).2⟩⟩
    | aV e m f τ l=>exact oF.refl _ _ _
    | deep e m f dk τ a=>exact oF.refl _ _ _
 ·rw[h4]
  show TV.er.go s.ln s.df=TV.er.go (s.rk q h2 h n o').ln s.df
  exact lD _ fun k hk=>hag k fun hm=>by subst hm;rw[(je hi k au).2.1] at hk;cases hk
def Au:List (TV S)→Bool
 | []=>true
 | .val (.slice none 0 0)::r=>Au r
 | _::_=>false
theorem Du (ln:Nat→Nat):∀{cs:List (TV S)},Au cs=true→TV.er.go ln cs=List.replicate cs.length (.val (.slice none 0 0))
 | [],_=>rfl
 | v::r,h=>by
  unfold Au at h
  split at h
  ·rename_i e
   cases e
  ·rename_i r' e
   cases e
   simp only[TV.er.go,Du ln h,bA,ob]
   rfl
  ·cases h
def ze (d:bH) (a b:Int) (n:Nat):bH:=⟨d.n+1,d.es++[⟨a,b,d.n,List.replicate n (iK,[])⟩],d.pd⟩
def D2 (P:Program) (ok:Nat→Bool) (s:ah S) (t:TypeId) (x y z:Operand){A:Type}(k:ah S→Option A):Option A:=
 match cn s x with
 | some (.mp h)=>match cn s z with
  | some (.loc h2 0)=>match ok h&&(ok h2&&(!(Nat.beq h2 h)&&inner s [h2])) with
   | true=>match aw s.st h with
    | some (.deep e m f (.map q kty tty) .map d)=>match aw s.st h2 with
     | some (.box e2 m2 cs)=>match m2&&(Nat.beq e2 tty&&Au cs) with
      | true=>match cn s y with
       | some vy=>match Lk q vy with
        | some (a,b)=>match P.underlying t with
         | some (.map kt et)=>match FY P kt q with
          | true=>(bo (d.n+1≤maxLen∧uV d.es a b=true)).bind fun _=>k (s.rk q h2 h d.n (.deep e m f (.map q kty tty) .map (ze d a b cs.length)))
          | false=>none
         | _=>none
        | none=>none
       | none=>none
      | false=>none
     | _=>none
    | _=>none
   | false=>none
  | _=>none
 | _=>none
theorem QH (q:IntKind) (n:Nat):(List.replicate n ((iK,[]):Nat×List Int)).map (fun p=>(p.1,gG q p.2))=List.replicate n (iK,[]):=by
 rw[List.map_replicate];rfl
def uU (z:Nat):List (Nat×List Int)→Nat→Option Nat
 | [],_=>none
 | (x,_)::r,j=>bif Nat.beq x z then some j else uU z r (j+1)
def zc (z:Nat):List bS→Option (Nat×Nat)
 | []=>none
 | e::r=>match uU z e.f 0 with
  | some j=>some (e.t,j)
  | none=>zc z r
def pX (d:bH) (z n:Nat) (x:Int) (bt:Nat):Option bH:=
 (bo (d.pd.isNone=true∧d.n+1≤maxLen∧n+1≤maxLen∧(n+1)*bt≤140737488355328)).bind fun _=>
  match n with
  | 0=>(bo (z=iK)).bind fun _=>some ⟨d.n+1,d.es,some (none,d.n,[x])⟩
  | _+1=>(zc z d.es).bind fun p=>(iz d.es p.1 p.2).bind fun q=>(bo (q.1=z∧q.2.length=n)).bind fun _=>some ⟨d.n+1,d.es,some (some p,d.n,q.2++[x])⟩
def rF (es:List bS) (t j:Nat) (p:Nat×List Int):List bS:=es.map fun e=>bif Nat.beq e.t t then {e with f:=e.f.set j p} else e
def kf (d:bH) (t j z n:Nat):Option bH:=
 match d.pd with
 | none=>none
 | some (sr,x,l)=>(bo (x=z∧List.length l=n∧(sr=none∨sr=some (t,j)))).bind fun _=>(vG d.es t).bind fun e=>(bo (j<e.f.length)).bind fun _=>some ⟨d.n,rF d.es t j (x,l),none⟩
def OH (s:ah S):List Operand→Bool
 | [x,_]=>match cn s x with
  | some (.ks h _ _ _)=>match aw s.st h with
   | some (.deep _ _ _ (.map _ _ _) .map _)=>true
   | _=>false
  | _=>false
 | _=>false
def D3 (P:Program) (ok:Nat→Bool) (s:ah S) (d:Nat) (c:Call){A:Type}(k:ah S→Option A):Option A:=
 match c.args.toList,c.argTypes.toList with
 | [x,y],[t,t']=>match decEq t t' with
  | isFalse _=>none
  | isTrue _=>match P.underlying t with
   | some (.slice e0)=>match cn s x with
    | some (.ks h τ z n)=>match ok h with
     | false=>none
     | true=>match aw s.st h with
      | some (.deep e m f (.map q kty tty) .map dd)=>match decEq τ (.int q),decEq e0 kty with
       | isTrue _,isTrue _=>match cn s y with
        | some (.aR h3 _)=>match aw s.bi h3 with
         | some (.aV _ _ _ (.int q3) [v])=>match decEq q3 q with
          | isTrue _=>match P.info? e0 with
           | some i=>match i.zero with
            | some zv=>match decEq i.size 1,decEq zv.cells.size 1 with
             | isTrue _,isTrue _=>(pX dd z n v i.bytes).bind fun dd'=>k ((s.set h (.deep e m f (.map q kty tty) .map dd')).put d (.ks h (.int q) dd.n (n+1)))
             | _,_=>none
            | none=>none
           | none=>none
          | isFalse _=>none
         | _=>none
        | _=>none
       | _,_=>none
      | _=>none
    | _=>none
   | _=>none
 | _,_=>none
def QD (s:ah S) (x:Operand):Bool:=match cn s x with
 | some (.kp h _ _ _)=>match aw s.st h with
  | some (.deep _ _ _ (.map _ _ _) .map _)=>true
  | _=>false
 | _=>false
def HF (P:Program) (ok:Nat→Bool) (s:ah S) (t:TypeId) (x y:Operand){A:Type}(k:ah S→Option A):Option A:=
 match cn s x with
 | some (.kp h (.list _) i j)=>match cn s y with
  | some (.ks h2 τ z n)=>match ok h with
   | false=>none
   | true=>match aw s.st h with
    | some (.deep e m f (.map q kty tty) .map dd)=>match decEq h2 h,decEq τ (.int q),decEq (kz P t) (some 1) with
     | isTrue _,isTrue _,isTrue _=>(kf dd i j z n).bind fun dd'=>k (s.set h (.deep e m f (.map q kty tty) .map dd'))
     | _,_,_=>none
    | _=>none
  | _=>none
 | _=>none
def Dv:List (TV S)→Bool
 | []=>true
 | .ks _ τ _ _::r=>(match τ with | .st _=>false | _=>true)&&Dv r
 | _::_=>false
def SH (s:ah S) (parts:List (Nat×Operand)):Bool:=
 match parts with
 | []=>false
 | _=>match vZ s parts 0 with
  | some vs=>Dv vs
  | none=>false
def LL (P:Program) (s:ah S) (d:Nat) (t:TypeId) (n:Nat) (parts:Array (Nat×Operand)){A:Type}(k:ah S→Option A):Option A:=
 match s.free (s.cR d) with
 | true=>match P.underlying t with
  | some (.slice e)=>match P.info? e with
   | some i=>match i.zero with
    | some _=>match decEq i.size 1 with
     | isTrue _=>match vZ s parts.toList 0 with
      | some (v::vs)=>match v with
       | .ks _ τ _ _=>match Dv (v::vs)&&(Nat.beq (vs.length+1) n&&(Nat.ble n 16777216&&!(TV.has.go (s.cR d) (v::vs)))) with
        | true=>k ((s.add (s.cR d) (.box e true (v::vs))).put d (.sub (s.cR d) (.list τ) 0 n))
        | false=>none
       | _=>none
      | _=>none
     | isFalse _=>none
    | none=>none
   | none=>none
  | _=>none
 | false=>none
section
variable {P:Program}{W:List Nat}{s:ah S}{ty:TypeId}{pos:String}{after:Array Edge}{guard:Option (Nat×Bool)}{A:Type}{k:ah S→Option A}{r:A}
theorem MU {d:Nat}{t:TypeId}{n:Option Operand}(hl:a5 s) (h:HA P s d t n k=some r):fC P W s ⟨some d,.makeMap t n,ty,pos,after,guard⟩ k r:=by
 unfold HA at h
 split at h
 ·split at h
  ·rename_i hf
   split at h
   ·rename_i q kty tty _
    obtain⟨e1,_⟩:=oE hf (.deep 0 true true (.map q kty tty) .map ⟨0,[],none⟩) rfl
    refine .one _ (EF.mkMap (s.cR d) q kty tty (gq hf)) ?_ ((hl.add _ hf).put _ _) ⟨rfl,rfl,rfl⟩ h
    rw[fE,e1]
    exact Gh.refl _
   ·cases h
  ·cases h
 ·cases h
theorem K7 {ok:Nat→Bool}(hokW:∀h,ok h=true→W.contains h=true){t:TypeId}{x y z:Operand}(hl:a5 s) (h:D2 P ok s t x y z k=some r):fC P W s ⟨none,.mapUpdate t x y z,ty,pos,after,guard⟩ k r:=by
 unfold D2 at h
 split at h
 ·rename_i hh hx
  split at h
  ·rename_i h2 hz
   split at h
   ·rename_i hc
    simp only[aj,a8] at hc
    obtain⟨c1,c2,c3,c4⟩:=hc
    split at h
    ·rename_i e m f q kty tty dd ho
     split at h
     ·rename_i e2 m2 cs ho2
      split at h
      ·rename_i hb
       simp only[aj] at hb
       obtain⟨b1,b2,b3⟩:=hb
       split at h
       ·rename_i vy hy
        split at h
        ·rename_i a b hk
         split at h
         ·rename_i kt et hu
          split at h
          ·rename_i hK
           obtain⟨_,hck,h⟩:=bind_some h
           obtain⟨k1,k2⟩:=cm hck
           have hy:=bh hy
           rw[JQ hk] at hy
           have hne:h2≠hh:=fun e=>by subst e;rw[aI] at c3;cases c3
           have hno:my (dd.es.map (bS.me q)) (a,b)=none:=by
            rw[Aj]
            unfold uV at k2
            cases hm:gF dd.es a b with
            | none=>rfl
            | some _=>rw[hm] at k2;cases k2
           have hs1:=cQ (dU ho)
           have hs2:=cQ (dU ho2)
           have hoE:(TO.deep e m f (.map q kty tty) .map (ze dd a b cs.length):TO S).er s.ln=⟨e,true,m,f,1,[],some (.deep (fI q kty tty (dd.n+1) (List.map (bS.me q) dd.es++[ME.mk (a,b) dd.n (List.replicate cs.length (iK,[]))]) (vY q dd.pd)))⟩:=by
            show ap.mk _ _ _ _ _ _ (some (.deep (fI q kty tty (dd.n+1) (List.map (bS.me q) (dd.es++[bS.mk a b dd.n (List.replicate cs.length (iK,[]))])) (vY q dd.pd))))=_
            rw[jC]
            simp only[aJ,iB,bS.me,QH]
           obtain⟨g1,g2,g3⟩:=Su (s:=s) (q:=q) (h:=hh) (h2:=h2) (n:=dd.n) (o':=.deep e m f (.map q kty tty) .map (ze dd a b cs.length))
            (s1:={fr:=vD (l8 h2 hh dd.n) s.er.fr,st:=bD (Bg (l8 h2 hh dd.n) (oP s.er.st h2)) hh ⟨e,true,m,f,1,[],some (.deep (fI q kty tty (dd.n+1) (List.map (bS.me q) dd.es++[ME.mk (a,b) dd.n (List.replicate cs.length (iK,[]))]) (vY q dd.pd)))⟩,df:=s.er.df})
            ho rfl (fun _ _=>rfl) c4 hne rfl (by rw[hoE,fg (pI (k8 (Ne.symm hne) hs1))]) (fun x k0 hx1 hx2 h0=>by
             show aq (bD _ _ _) _=_
             rw[eO hx1]
             exact pI (k8 hx2 h0)) rfl
           refine .one _ (EF.RG (q:=q) (kty:=kty) (tty:=tty) (n:=dd.n) (es:=dd.es.map (bS.me q)) (pd:=vY q dd.pd) (ky:=(a,b)) (zf:=cs.length) (bh hx) hy (bh hz) c3 hs1 rfl hu (HU hK) hno hs2 rfl (aa b2) b1 (Du _ b3) k1 (by rw[show s.er.df=TV.er.go s.ln s.df from rfl,Aq,(je c4 h2 au).2.1];rfl) (hokW _ c1) (hokW _ c2)) g1 g2 g3 h
          ·cases h
         ·cases h
        ·cases h
       ·cases h
      ·cases h
     ·cases h
    ·cases h
   ·cases h
  ·cases h
 ·cases h
theorem OK (q:IntKind) (l:List Int) (x:Int):gG q (l++[x])=gG q l++[.val (.int q x)]:=by simp[gG]
theorem OJ {q:IntKind}{l:List Int}(h:l≠[]):gG q l≠[]:=by
 intro e
 apply h
 cases l with
 | nil=>rfl
 | cons a r=>cases e
theorem K8 {ok:Nat→Bool}(hokW:∀h,ok h=true→W.contains h=true){d:Nat}{args:Array Operand}{ts:Array TypeId}(hl:a5 s) (h:D3 P ok s d ⟨.builtin .append,args,ts⟩ k=some r):
  fC P W s ⟨some d,.call ⟨.builtin .append,args,ts⟩,ty,pos,after,guard⟩ k r:=by
 unfold D3 at h
 dsimp only at h
 split at h
 ·rename_i x y t t' h1 h2
  have h1:=mn h1
  have h2:=mn h2
  subst h1;subst h2
  split at h
  ·cases h
  ·rename_i e1 _
   subst e1
   split at h
   ·rename_i e0 hu
    split at h
    ·rename_i hh τ z n hx
     split at h
     ·cases h
     ·rename_i hW
      split at h
      ·rename_i e m f q kty tty dd ho
       split at h
       ·rename_i e1 e2 _ _
        subst e1;subst e2
        split at h
        ·rename_i h3 τ3 hy
         split at h
         ·rename_i e3 m3 f3 q3 v ho3
          split at h
          ·rename_i e1 _
           subst e1
           split at h
           ·rename_i i hi
            split at h
            ·rename_i zv hz
             split at h
             ·rename_i i1 i2 _ _
              obtain⟨dd',hd,h⟩:=bind_some h
              unfold pX at hd
              obtain⟨_,hck,hd⟩:=bind_some hd
              obtain⟨k1,k2,k3,k4⟩:=cm hck
              have hpd:dd.pd=none:=by
               cases hp:dd.pd with
               | none=>rfl
               | some _=>rw[hp] at k1;cases k1
              have ho':=cQ (dU ho)
              have ho3':=cQ ho3
              have hinfo:(P.info? e0).map (fun i=>(i.zero,i.size,i.bytes))=some (some zv,1,i.bytes):=by rw[hi,bL,hz,i1]
              have hln3:s.ln h3=1:=mf ho3
              have hsrc:∃(l:List Int) (sr:Option (Nat×Nat)),n=l.length∧dd'=⟨dd.n+1,dd.es,some (sr,dd.n,l++[v])⟩∧((z=iK∧gG q3 l=[]∧sr=none)∨(gG q3 l≠[]∧∃tt j e,sr=some (tt,j)∧vQ (dd.es.map (bS.me q3)) tt=some e∧e.f[j]?=some (z,gG q3 l))):=by
               split at hd
               ·obtain⟨_,hck,hd⟩:=bind_some hd
                cases hd
                exact⟨[],none,rfl,rfl,.inl ⟨cm hck,rfl,rfl⟩⟩
               ·rename_i n'
                obtain⟨p,q1,hd⟩:=bind_some hd
                obtain⟨qq,q2,hd⟩:=bind_some hd
                obtain⟨_,hck,hd⟩:=bind_some hd
                obtain⟨c1,c2⟩:=cm hck
                cases hd
                obtain⟨z',l⟩:=qq
                dsimp only at c1 c2
                subst c1
                obtain⟨e',r1,r2⟩:=JG q2 q3
                refine⟨l,some p,c2.symm,rfl,.inr ⟨OJ (by intro e;subst e;cases c2),p.1,p.2,e',rfl,r1,r2⟩⟩
              obtain⟨l,sr,hn,hdd,hsr⟩:=hsrc
              subst hn;subst hdd
              obtain⟨e2,e3⟩:=lc (s:=s) (o':=.deep e m f (.map q3 e0 tty) .map ⟨dd.n+1,dd.es,some (sr,dd.n,l++[v])⟩) ho rfl
              have hil:(gG q3 l).length=l.length:=BL q3 l
              have hoE:aq s.er.st hh=some ⟨e,true,m,f,1,[],some (.deep (fI q3 e0 tty dd.n (dd.es.map (bS.me q3)) none))⟩:=by
               rw[ho']
               show some (ap.mk _ _ _ _ _ _ (some (.deep (fI q3 e0 tty dd.n (dd.es.map (bS.me q3)) (vY q3 dd.pd)))))=_
               rw[hpd];rfl
              have:=EF.RJ (P:=P) (W:=W) (ty:=ty) (pos:=pos) (after:=after) (guard:=guard) (s:=s.er) (d:=d) (t:=t) (e0:=e0) (x:=x) (y:=y) (h:=hh) (z:=z) (n:=dd.n) (bt:=i.bytes) (q:=q3) (kty:=e0) (tty:=tty) (es:=dd.es.map (bS.me q3)) (sr:=sr) (gs:=gG q3 l)
               (gy:=.aR h3 (S.sz τ3) 0 1) (v0:=.int q3 v) (f:=f3) (zv:=zv) (by rw[bh hx,hil];rfl) (by rw[bh hy];show some (G.aR h3 _ 0 (s.ln h3))=_;rw[hln3]) hoE rfl hsr (by simp only[oT,ho3'];rfl) rfl rfl hu hinfo i2 k2 (by rw[hil];exact k3) (by rw[hil];exact k4) (hokW _ hW)
              refine .one _ this ?_ ((hl.set ho _).put _ _) ⟨rfl,rfl,rfl⟩ h
              rw[fE,e2]
              rw[hil]
              have hpg:vY q3 (some (sr,dd.n,l++[v]))=some (sr,dd.n,gG q3 l++[.val (.int q3 v)]):=by
               show some (sr,dd.n,gG q3 (l++[v]))=_
               rw[OK]
              have hE2:(TO.deep e m f (.map q3 e0 tty) .map ⟨dd.n+1,dd.es,some (sr,dd.n,l++[v])⟩:TO S).er s.ln=⟨e,true,m,f,1,[],some (.deep (fI q3 e0 tty (dd.n+1) (dd.es.map (bS.me q3)) (some (sr,dd.n,gG q3 l++[.val (.int q3 v)]))))⟩:=by
               rw[←hpg];rfl
              rw[hE2]
              exact Gh.refl _
             ·cases h
            ·cases h
           ·cases h
          ·cases h
         ·cases h
        ·cases h
       ·cases h
      ·cases h
    ·cases h
   ·cases h
 ·cases h
theorem Jq (q:IntKind) (t j z:Nat) (l:List Int):∀es:List bS,wZ (es.map (bS.me q)) t j (z,gG q l)=(rF es t j (z,l)).map (bS.me q)
 | []=>rfl
 | e::r=>by
  have ih:=Jq q t j z l r
  simp only[wZ,rF,aJ] at ih⊢
  rw[ih]
  congr 1
  show(bif Nat.beq e.t t then _ else _)=bS.me q (bif Nat.beq e.t t then _ else _)
  cases Nat.beq e.t t with
  | true=>
   show ME.mk _ _ _=ME.mk _ _ _
   congr 1
   show(e.f.map _).set j _=(e.f.set j (z,l)).map _
   rw[kE]
  | false=>rfl
theorem MW {ok:Nat→Bool}(hokW:∀h,ok h=true→W.contains h=true){t:TypeId}{x y:Operand}(hl:a5 s) (h:HF P ok s t x y k=some r):fC P W s ⟨none,.store t x y,ty,pos,after,guard⟩ k r:=by
 unfold HF at h
 split at h
 ·rename_i hh τ0 i j hx
  split at h
  ·rename_i h2 τ z n hy
   split at h
   ·cases h
   ·rename_i hW
    split at h
    ·rename_i e m f q kty tty dd ho
     split at h
     ·rename_i e1 e2 hsz _ _ _
      subst e1;subst e2
      obtain⟨dd',hd,hk0⟩:=bind_some h
      unfold kf at hd
      split at hd
      ·cases hd
      ·rename_i sr x' l hp
       obtain⟨_,hck,hd⟩:=bind_some hd
       obtain⟨c1,c2,c3⟩:=cm hck
       obtain⟨e',q1,hd⟩:=bind_some hd
       obtain⟨_,hck,hd⟩:=bind_some hd
       have c4:=cm hck
       cases hd
       subst c1;subst c2
       have ho':=cQ (dU ho)
       obtain⟨e2,e3⟩:=lc (s:=s) (o':=.deep e m f (.map q kty tty) .map ⟨dd.n,rF dd.es i j (x',l),none⟩) ho rfl
       have hoE:aq s.er.st h2=some ⟨e,true,m,f,1,[],some (.deep (fI q kty tty dd.n (dd.es.map (bS.me q)) (some (sr,x',gG q l))))⟩:=by
        rw[ho']
        show some (ap.mk _ _ _ _ _ _ (some (.deep (fI q kty tty dd.n (dd.es.map (bS.me q)) (vY q dd.pd)))))=_
        rw[hp];rfl
       have:=EF.SE (P:=P) (W:=W) (ty:=ty) (pos:=pos) (after:=after) (guard:=guard) (s:=s.er) (t:=t) (x:=x) (y:=y) (h:=h2) (tt:=i) (j:=j) (z:=x') (n:=dd.n) (sr:=sr) (q:=q) (kty:=kty) (tty:=tty) (es:=dd.es.map (bS.me q)) (e:=bS.me q e') (gs:=gG q l)
        (by rw[bh hx];show some (G.kp h2 i (j*1))=_;rw[ed]) (by rw[bh hy,BL];rfl) hoE rfl c3 (by rw[Gq,q1];rfl) (by show j<(e'.f.map _).length;rw[aW];exact c4) (dA hsz) (hokW _ hW)
       refine .one _ this ?_ (hl.set ho _) ⟨rfl,rfl,rfl⟩ hk0
       rw[e2,Jq]
       exact Gh.refl _
     ·cases h
    ·cases h
  ·cases h
 ·cases h
theorem Gh.Tq {fr:List (Nat×G)}{r:List (Nat×ap)}{df:List G}{h:Nat}{e:TypeId}{p m f:Bool}{n:Nat}{cs:List G}:
  Gh ⟨fr,(h,⟨e,p,m,f,n,cs,none⟩)::r,df⟩ ⟨fr,(h,⟨e,p,m,f,0,cs,none⟩)::r,df⟩:=by
 have hg:∀x k',aq ((h,(⟨e,p,m,f,0,cs,none⟩:ap))::r) x=some k'→∃k,aq ((h,(⟨e,p,m,f,n,cs,none⟩:ap))::r) x=some k∧(k'=k∨(k'=⟨e,p,m,f,0,cs,none⟩∧k=⟨e,p,m,f,n,cs,none⟩)):=by
  intro x k' hk
  simp only[aq] at hk⊢
  cases hb:Nat.beq h x with
  | true=>rw[hb] at hk;cases hk;exact⟨_,rfl,.inr ⟨rfl,rfl⟩⟩
  | false=>rw[hb] at hk;exact⟨_,hk,.inl rfl⟩
 refine Gh.of (fun N cx μ a w hr=>?_) fun x k' hk=>let ⟨k,h1,_⟩:=hg x k' hk;⟨k,h1⟩
 have hO:∀b,b<w.heap.size→¬cx.O ((h,(⟨e,p,m,f,n,cs,none⟩:ap))::r) μ b→¬cx.O ((h,(⟨e,p,m,f,0,cs,none⟩:ap))::r) μ b:=fun b _ hn ho=>hn (ho.imp id fun ⟨x,k,c,mm,h1,h2,hi⟩=>let ⟨k0,h3,_⟩:=hg x k h1;⟨x,k0,c,mm,h3,h2,hi⟩)
 refine {st:={dc:=?_,cE:=?_,bU:=?_,ei:=?_,eg:=hr.st.eg,hb:=hr.st.hb,os:=hr.st.os,tape:=hr.st.tape,output:=hr.st.output,da:=hr.st.da},nd:=hr.nd.mono (Kept.refl _ _) hO,sz:=hr.sz,fr:=fun d g' hg'=>let ⟨v,h1,h2⟩:=hr.fr d g' hg';⟨v,h1,h2.mono (Kept.refl _ _) hO (az _)⟩}
 ·intro x k' hk
  obtain⟨k,h1,h2⟩:=hg x k' hk
  have hb:=(hr.st.dc x k h1).mono (fun _ _ _ _ _=>rfl) (Kept.refl _ _) hO
  rcases h2 with h2 | ⟨h2,h3⟩
  ·rw[h2];exact hb
  ·subst h2;subst h3
   cases hm:μ x with
   | none=>rw[hm] at hb;exact hb.tS rfl rfl rfl
   | some bm=>
    obtain⟨b,mm⟩:=bm
    rw[hm] at hb
    obtain⟨cs,q1,q2,q3,q4,q5,q6⟩:=hb.cells rfl
    exact .mk rfl (hb.kn rfl) ⟨cs,q1,q2,q3,q4,fun h0=>absurd rfl h0,q6⟩
 ·intro x x' k1 k2 y b m b' m' h1 h2
  obtain⟨k1',h1',_⟩:=hg x k1 h1
  obtain⟨k2',h2',_⟩:=hg x' k2 h2
  exact hr.st.cE x x' k1' k2' y b m b' m' h1' h2'
 ·intro x k1 b m y h1 h2 hi
  obtain⟨k,hk,c⟩:=hg x k1 h1
  obtain⟨a1,a2,a3,a4⟩:=hr.st.bU x k b m y hk h2 hi
  refine⟨a1,a2,a3,fun hm=>a4 ?_⟩
  rcases c with c | ⟨c,c'⟩
  ·rw[←c];exact hm
  ·subst c;subst c';exact hm
 ·intro x k1 h1 h2
  obtain⟨k1',h1',_⟩:=hg x k1 h1
  exact hr.st.ei x k1' h1' h2
theorem IY (ln:Nat→Nat):∀{vs:List (TV S)},Dv vs=true→pp 1 (TV.er.go ln vs)=true∧(TV.er.go ln vs).flatMap cK=TV.er.go ln vs
 | [],_=>⟨rfl,rfl⟩
 | v::r,h=>by
  unfold Dv at h
  split at h
  ·rename_i e;cases e
  ·rename_i τ _ _ r' e
   cases e
   simp only[aj] at h
   obtain⟨i1,i2⟩:=IY ln h.2
   simp only[TV.er.go,TV.er,pp,cp,i2]
   refine⟨?_,rfl⟩
   rw[i1];rfl
  ·cases h
theorem Pf {d:Nat}{t:TypeId}{n:Nat}{parts:Array (Nat×Operand)}(hl:a5 s) (h:LL P s d t n parts k=some r):fC P W s ⟨some d,.buildSlice t n parts,ty,pos,after,guard⟩ k r:=by
 unfold LL at h
 split at h
 ·rename_i hf
  split at h
  ·rename_i e hu
   split at h
   ·rename_i i hi
    split at h
    ·rename_i z hz
     split at h
     ·rename_i hs _
      split at h
      ·rename_i v vs hv
       split at h
       ·rename_i h0 τ i0 n0
        split at h
        ·rename_i hc
         simp only[aj,a8] at hc
         obtain⟨c1,c2,c3,c4⟩:=hc
         have c2:=aa c2
         have c3:=eX c3
         have hinfo:(P.info? e).map (fun i=>(i.zero,i.size,i.bytes))=some (some z,1,i.bytes):=by rw[hi,bL,hz,hs]
         obtain⟨i1,i2⟩:=IY s.ln c1
         obtain⟨e1,_⟩:=oE hf (.box e true (.ks h0 τ i0 n0::vs)) c4
         refine .one _ (EF.buildSlice (sz:=1) (z:=z) (bt:=i.bytes) (s.cR d) (gs:=TV.er.go s.ln (.ks h0 τ i0 n0::vs)) (yX hv) (by rw[cU,aW,bA,c2]) hu hinfo (by omega) (by omega) i1 (gq hf)) ?_ ((hl.add _ hf).put _ _) ⟨rfl,rfl,rfl⟩ h
         rw[fE,e1,i2]
         show Gh _ ⟨(d,.aR (s.cR d) 1 (0*1) n)::s.er.fr,_,_⟩
         exact Gh.Tq
        ·cases h
       ·cases h
      ·cases h
     ·cases h
    ·cases h
   ·cases h
  ·cases h
 ·cases h
end
end
end Go.DN
/-
 DN,part L:regions.
-/
namespace Go.DN
open Go.AM
section
variable {S:eE}
def wq (s:ah S) (c:Call):Bool:=
 match c.callee with
 | .value x=>match cn s x with
  | some (.ct _)=>true
  | _=>false
 | _=>false
def Rb (s:ah S):Op→Option Call
 | .call c=>match wq s c with
  | true=>some c
  | false=>none
 | _=>none
def QR (s:ah S):List (Nat×Operand)→Bool
 | [(_,x)]=>match cn s x with
  | some (.aR h τ)=>match τ.fZ with
   | true=>match aw s.st h with
    | some (.aV _ m _ _ _)=>m
    | _=>false
   | false=>false
  | _=>false
 | _=>false
def Df (s:ah S):List Operand→List Nat
 | []=>[]
 | x::r=>match cn s x with
  | some (.aR h _)=>match HZ s h with
   | true=>h::Df s r
   | false=>Df s r
  | _=>Df s r
def P4 (s:ah S) (x:Operand):Bool:=match cn s x with
 | some (.loc h off)=>match aw s.st h with
  | some (.box _ _ cs)=>match cs[off]? with
   | some (.sub _ _ _ _)=>true
   | _=>false
  | _=>false
 | _=>false
noncomputable def Nv (P:Program) (ok:Nat→Bool){A:Type}(cl:ah S→Option Nat→Call→(ah S→Option A)→Option A) (s:ah S) (dst:Option Nat) (op:Op) (k:ah S→Option A):Option A:=
 match dst with
 | some d=>match op with
  | .box t x=>Ph s d t x k
  | .alloc t=>IV P s d t k
  | .makeSlice t x y=>match QA S P t with
   | true=>D1 P s d t x y k
   | false=>CR P s d t x y k
  | .load t x=>DL P ok s d t x k
  | .makeMap t n=>HA P s d t n k
  | .buildSlice t n parts=>match S.dK&&QR s parts.toList with
   | true=>Eh P ok s d t n parts k
   | false=>match SH s parts.toList with
    | true=>LL P s d t n parts k
    | false=>match p9 (KZ s (parts.toList.map (·.2))) s with
    | some s'=>Pg P s' d t n parts k
    | none=>none
  | .binOp op t x y _=>On P s d op t x y k
  | .call c=>match c.callee with
   | .builtin .append=>match c.args.toList with
    | x::r=>match RL s (x::r) with
     | true=>IT P ok s d c k
     | false=>match OH s (x::r) with
      | true=>D3 P ok s d c k
      | false=>match Df s [x] with
      | []=>match p9 (Df s r) s with
       | some s=>yD s x fun s'=>Pr P ok s' d c k
       | none=>none
      | _=>Ei P ok s d c k
    | []=>none
   | .builtin .copy=>LG P ok s d c k
   | .value _=>match wq s c with
    | true=>none
    | false=>cl s (some d) c k
   | _=>none
  | _=>none
 | none=>match op with
  | .store t x y=>match cn s x with
   | some (.gK h _ _ _)=>match HZ s h with
    | true=>match HW s h with
     | true=>G0 P ok s t x y k
     | false=>Ii P ok s t x y k
    | false=>match p9 (KZ s [y]) s with
     | some s'=>yH P ok s' t x y k
     | none=>none
   | _=>match QD s x with
    | true=>HF P ok s t x y k
    | false=>match P4 s x with
     | true=>yH P ok s t x y k
     | false=>yD s y fun s'=>yH P ok s' t x y k
  | .mapUpdate t x y z=>D2 P ok s t x y z k
  | .call c=>match c.callee with
   | .builtin .clear=>IJ P ok s c k
   | .value _=>match wq s c with
    | true=>none
    | false=>cl s none c k
   | _=>none
  | _=>none
def HY:Op→Bool
 | .box _ _=>true
 | .alloc _=>true
 | .makeSlice _ _ _=>true
 | .buildSlice _ _ _=>true
 | .store _ _ _=>true
 | .makeMap _ _=>true
 | .mapUpdate _ _ _ _=>true
 | .binOp op _ _ y _=>match op with
  | .eql=>match y with
   | .const (.slice none 0 0)=>true
   | _=>false
  | .neq=>match y with
   | .const (.slice none 0 0)=>true
   | _=>false
  | _=>false
 | .call c=>match c.callee with
  | .builtin .append=>true
  | .builtin .copy=>true
  | .builtin .clear=>true
  | .value _=>true
  | _=>false
 | _=>false
def HX:Op→Bool
 | .load _ _=>true
 | .lookup _ _ _ _=>true
 | _=>false
def qc (N:Nat):Option Nat→Bool
 | some d=>Nat.blt d N
 | none=>true
def Ln (s:ah S) (op:Op):Bool:=HY op||D7 s op
noncomputable def MJ (P:Program) (N:Nat) (ok:Nat→Bool){A:Type}(cl:ah S→Option Nat→Call→(ah S→Option A)→Option A) (s:ah S) (o:Oper) (k:ah S→Option A):Option A:=
 match qc N o.dst with
 | true=>match Ln s o.op with
  | true=>Nv P ok cl s o.dst o.op k
  | false=>match o.dst with
   | some d=>match HX o.op with
    | true=>Jf P [] s o.op fun v=>k (s.put d v)
    | false=>MH P s o.op fun v x=>k (s.Bh d v x)
   | none=>none
 | false=>none
def nF (N:Nat) (s:ah S) (o:Oper):Option (ah S):=
 match o.dst with
 | some d=>match Nat.blt d N with
  | true=>some (s.put d (.bl []))
  | false=>none
 | none=>some {s with fr:=s.fr}
noncomputable def pK (P:Program) (N:Nat) (ok:Nat→Bool) (ops:List Oper){A:Type}(cl:ah S→Option Nat→Call→(ah S→Option A)→Option A):List Oper→ah S→(ah S→Option A)→Option A
 | [],s,k=>k s
 | o::r,s,k=>match o.guard with
  | none=>match Rb s o.op with
   | some c=>cl s o.dst c fun s'=>pK P N ok ops cl r s' k
   | none=>MJ P N ok cl s o fun s'=>pK P N ok ops cl r s' k
  | some (j,want)=>match ops[j]? with
   | some oj=>match oj.dst with
    | some d=>match bg s.bZ d with
     | some (.ab _ .bool b)=>match want with
      | true=>cond b (MJ P N ok cl (s.put d (.ab true .bool true)) o fun s'=>pK P N ok ops cl r s' k)
       (match nF N (s.put d (.ab true .bool false)) o with | some s'=>pK P N ok ops cl r s' k | none=>none)
      | false=>cond b (match nF N (s.put d (.ab true .bool true)) o with | some s'=>pK P N ok ops cl r s' k | none=>none)
       (MJ P N ok cl (s.put d (.ab true .bool false)) o fun s'=>pK P N ok ops cl r s' k)
     | some (.bl [])=>match nF N s o with
      | some s'=>pK P N ok ops cl r s' k
      | none=>none
     | _=>none
    | none=>none
   | none=>none
section
variable {P:Program}{N:Nat}{cx:Cx}{Q:Exit→St→Prop}{W:List Nat}{ok:Nat→Bool}{A:Type}{cl:ah S→Option Nat→Call→(ah S→Option A)→Option A}{r:A}
def LW (P:Program) (W:List Nat) (s:ah S) (o:Oper){A:Type}(k:ah S→Option A) (kp:List PanicEntry→ah S→Option A) (r:A):Prop:=
 ∃(T:St→Prop) (Tp:List PanicEntry→St→Prop),lz P W s.er o T Tp∧(∀s',T s'→∃t:ah S,Gh s' t.er∧a5 t∧bF s t∧k t=some r)∧∀ch s',Tp ch s'→∃t:ah S,Gh s' t.er∧a5 t∧bF s t∧kp ch t=some r
theorem fC.p {s:ah S}{o:Oper}{k:ah S→Option A}{kp:List PanicEntry→ah S→Option A}(h:fC P W s o k r):LW P W s o k kp r:=
 let ⟨T,h1,h2⟩:=h
 ⟨T,_,h1.p,h2,fun _ _ h=>h.elim⟩
theorem lz.tell {s:St}{o:Oper}{T:St→Prop}{Tp Tp':List PanicEntry→St→Prop}(h:lz P W s o T Tp) (ht:∀ch s',Tp ch s'→∃t,Gh s' t∧Tp' ch t):lz P W s o T Tp':=
 ⟨h.1,fun N cx μ a w hr hN K Q hK hp=>h.2 N cx μ a w hr hN K Q hK fun ch μ' s' w' hr' hT=>by
  obtain⟨t,h1,h2⟩:=ht ch s' hT
  obtain⟨μ2,h3,_⟩:=h1 N cx μ' a w' hr'
  exact hp ch μ2 t w' h3 h2⟩
def zT (P:Program) (N:Nat) (W:List Nat){A:Type}(cl:ah S→Option Nat→Call→(ah S→Option A)→Option A) (kp:List PanicEntry→ah S→Option A) (r:A):Prop:=
 ∀(s:ah S) (dst:Option Nat) (c:Call) (k:ah S→Option A),a5 s→wq s c=false→cl s dst c k=some r→∀(ty:TypeId) (pos:String) (after:Array Edge) (guard:Option (Nat×Bool)),LW P W s ⟨dst,.call c,ty,pos,after,guard⟩ k kp r
def Ga (P:Program) (N:Nat) (W:List Nat){A:Type}(cl:ah S→Option Nat→Call→(ah S→Option A)→Option A) (r:A):Prop:=
 ∀(s:ah S) (dst:Option Nat) (c:Call) (k:ah S→Option A),a5 s→wq s c=false→cl s dst c k=some r→∀(ty:TypeId) (pos:String) (after:Array Edge) (guard:Option (Nat×Bool)),fC P W s ⟨dst,.call c,ty,pos,after,guard⟩ k r
theorem Ga.p {kp:List PanicEntry→ah S→Option A}(h:Ga P N W cl r):zT P N W cl kp r:=fun s dst c k a b d ty pos after guard=>(h s dst c k a b d ty pos after guard).p
def Pv (P:Program) (N:Nat){A:Type}(cl:ah S→Option Nat→Call→(ah S→Option A)→Option A) (r:A):Prop:=
 ∀(cx:Cx) (s:ah S) (dst:Option Nat) (c:Call) (k:ah S→Option A),a5 s→wq s c=true→cl s dst c k=some r→∀(ty:TypeId) (pos:String) (after:Array Edge) (ops:Array Oper) (rest:List Oper) (Q:Exit→St→Prop),
  (∀t:ah S,a5 t→bF s t→k t=some r→GL P N cx ops Q rest t.er)→GL P N cx ops Q (⟨dst,.call c,ty,pos,after,none⟩::rest) s.er
theorem NQ {s:ah S}{op:Op}{c:Call}(h:Rb s op=some c):op=.call c∧wq s c=true:=by
 unfold Rb at h
 split at h
 ·split at h
  ·rename_i hy;cases h;exact⟨rfl,hy⟩
  ·cases h
 ·cases h
theorem Iw (hokW:∀h,ok h=true→W.contains h=true){kp:List PanicEntry→ah S→Option A}(hcl:zT P N W cl kp r){s:ah S}{o:Oper}{k:ah S→Option A}(hl:a5 s) (h:Nv P ok cl s o.dst o.op k=some r):LW P W s o k kp r:=by
 obtain⟨dst,op,ty,pos,after,guard⟩:=o
 unfold Nv at h
 dsimp only at h
 split at h
 ·split at h
  ·exact(Q2 hl h).p
  ·exact(NJ hl h).p
  ·split at h
   ·exact(K6 hl h).p
   ·exact(Ou hl h).p
  ·exact(KM hokW hl h).p
  ·exact(MU hl h).p
  ·split at h
   ·exact(Lz hokW hl h).p
   ·split at h
    ·exact(Pf hl h).p
    ·split at h
     ·rename_i s' hz
      obtain⟨a1,a2,a3⟩:=lW hl hz
      exact(fC.gh a1 a3 (Q1 a2 h)).p
     ·cases h
  ·exact(Qv hl h).p
  ·rename_i c
   obtain⟨cal,args,ts⟩:=c
   dsimp only at h
   split at h
   ·split at h
    ·split at h
     ·exact(NI hokW hl h).p
     ·split at h
      ·exact(K8 hokW hl h).p
      ·split at h
       ·split at h
        ·rename_i s1 hz
         obtain⟨b1,b2,b3⟩:=lW hl hz
         obtain⟨t,a1,a2,a3,a4⟩:=yC b2 h
         exact(fC.gh b1 b3 (fC.gh a1 a3 (Q8 hokW a2 a4))).p
        ·cases h
       ·exact(LA hokW hl h).p
    ·cases h
   ·exact(O8 hokW hl h).p
   ·split at h
    ·cases h
    ·rename_i hy;exact hcl _ _ _ _ hl hy h _ _ _ _
   ·cases h
  ·cases h
 ·split at h
  ·split at h
   ·split at h
    ·split at h
     ·exact(Mx hokW hl h).p
     ·exact(Np hokW hl h).p
    ·split at h
     ·rename_i s' hz
      obtain⟨a1,a2,a3⟩:=lW hl hz
      exact(fC.gh a1 a3 (yG hokW a2 h)).p
     ·cases h
   ·split at h
    ·exact(MW hokW hl h).p
    ·split at h
     ·exact(yG hokW hl h).p
     ·obtain⟨t,a1,a2,a3,a4⟩:=yC hl h
      exact(fC.gh a1 a3 (yG hokW a2 a4)).p
  ·exact(K7 hokW hl h).p
  ·rename_i c
   obtain⟨cal,args,ts⟩:=c
   dsimp only at h
   split at h
   ·exact(NA hokW hl h).p
   ·split at h
    ·cases h
    ·rename_i hy;exact hcl _ _ _ _ hl hy h _ _ _ _
   ·cases h
  ·cases h
theorem Hm (hokW:∀h,ok h=true→W.contains h=true){kp:List PanicEntry→ah S→Option A}(hcl:zT P N W cl kp r){s:ah S}{ops:Array Oper}{rest:List Oper}{o:Oper}{k:ah S→Option A}(hl:a5 s) (hw:cY ops s.er o.guard=some true)
  (h:MJ P N ok cl s o k=some r) (hk:∀t:ah S,a5 t→bF s t→k t=some r→GL P N cx ops Q rest t.er)
  (hkp:∀ch (t:ah S),a5 t→bF s t→kp ch t=some r→∃u,Gh t.er u∧Q (.panic ch) u):GL P N cx ops Q (o::rest) s.er:=by
 unfold MJ at h
 split at h
 ·rename_i hd
  split at h
  ·obtain⟨T,Tp,he,hT,hTp⟩:=Iw hokW hcl hl h
   refine GL.QU (Tp:=fun ch u=>Q (.panic ch) u) hw (fun d e=>?_) (lz.tell he fun ch s' ht=>?_) (fun s' ht=>?_) fun _ _ h=>h
   ·rw[e] at hd;simpa[qc,fW] using hd
   ·obtain⟨t,h1,h2,h3,h4⟩:=hTp ch s' ht
    obtain⟨u,h5,h6⟩:=hkp ch t h2 h3 h4
    exact⟨u,h1.trans h5,h6⟩
   ·obtain⟨t,h1,h2,h3,h4⟩:=hT s' ht
    exact GL.gh h1 (hk t h2 h3 h4)
  ·split at h
   ·rename_i d e
    obtain⟨dst,op,ty,pos,after,guard⟩:=o
    dsimp only at e h hd
    subst e
    have hN:d<N:=by simpa[qc,fW] using hd
    split at h
    ·obtain⟨v,h1,h2⟩:=Cg (dst:=some d) (ty:=ty) (pos:=pos) (after:=after) (guard:=guard) hl h
     exact GL.yield hw rfl hN h1 (hk _ (hl.put d v) ⟨rfl,rfl,rfl⟩ h2)
    ·obtain⟨v,x,h1,h2,h3⟩:=Ha (dst:=some d) (ty:=ty) (pos:=pos) (after:=after) (guard:=guard) h
     refine GL.yield hw rfl hN (h1.yield []) ?_
     rw[←DT s d v x]
     exact hk _ (DS hl d h2) (rV s d v x) h3
   ·cases h
 ·cases h
theorem Bc {s t:ah S}{ops:Array Oper}{rest:List Oper}{o:Oper}(hl:a5 s) (hw:cY ops s.er o.guard=some false) (h:nF N s o=some t) (hk:a5 t→bF s t→GL P N cx ops Q rest t.er):GL P N cx ops Q (o::rest) s.er:=by
 unfold nF at h
 obtain⟨dst,op,ty,pos,after,guard⟩:=o
 dsimp only at h
 split at h
 ·split at h
  ·rename_i hN
   cases h
   exact GL.Tr hw hN (hk (hl.put _ _) ⟨rfl,rfl,rfl⟩)
  ·cases h
 ·cases h
  refine GL.pass hw ?_
  exact hk hl ⟨rfl,rfl,rfl⟩
theorem uH {ops:List Oper}{s:ah S}{j d:Nat}{want b:Bool}{oj:Oper}(h1:ops[j]?=some oj) (h2:oj.dst=some d) (h3:bg s.bZ d=some (.ab true .bool b)):cY ops.toArray s.er (some (j,want))=some (b==want):=by
 have:get s.er.fr d=some (.val (.bool b)):=by rw[show get s.er.fr d=_ from fh h3];exact congrArg some (gf true b)
 simp[cY,h1,h2,this]
theorem L0 {ops:List Oper}{s:ah S}{j d:Nat}{want:Bool}{oj:Oper}(h1:ops[j]?=some oj) (h2:oj.dst=some d) (h3:bg s.bZ d=some (.bl [])):cY ops.toArray s.er (some (j,want))=some false:=by
 have:get s.er.fr d=some (.bl []):=by rw[show get s.er.fr d=_ from fh h3];rfl
 simp[cY,h1,h2,this]
theorem CS {s:ah S}{ops:Array Oper}{rest:List Oper}{d:Nat}{f b v:Bool}(h:bg s.bZ d=some (.ab f .bool b)) (hb:b=v) (hk:GL P N cx ops Q rest (s.put d (.ab true .bool v)).er):GL P N cx ops Q rest s.er:=by
 refine GL.lit d (b:=b) (v:=v) ?_ hb ?_
 ·rw[show get s.er.fr d=_ from fh h];exact congrArg some (gf f b)
 ·rw[fE] at hk
  have e:(TV.ab true .bool v:TV S).er s.ln=.val (.bool v):=gf true v
  rw[e] at hk
  exact hk
theorem pn (hokW:∀h,ok h=true→W.contains h=true){kp:List PanicEntry→ah S→Option A}(hcl:zT P N W cl kp r) (hyl:Pv P N cl r){ops:List Oper}:∀{rest:List Oper}{s:ah S}{k:ah S→Option A},a5 s→pK P N ok ops cl rest s k=some r→
  (∀t:ah S,a5 t→bF s t→k t=some r→Q .normal t.er)→(∀ch (t:ah S),a5 t→bF s t→kp ch t=some r→∃u,Gh t.er u∧Q (.panic ch) u)→GL P N cx ops.toArray Q rest s.er
 | [],s,k,hl,h,hk,_=>GL.nil (hk s hl (bF.refl s) h)
 | o::rest,s,k,hl,h,hk,hkp=>by
  simp only[pK] at h
  split at h
  ·rename_i hg
   split at h
   ·rename_i c hc
    obtain⟨e1,e2⟩:=NQ hc
    obtain⟨dst,op,ty,pos,after,guard⟩:=o
    dsimp only at hg e1 h
    subst hg;subst e1
    exact hyl cx s dst c _ hl e2 h ty pos after _ _ _ fun t hl' hkp' h'=>pn hokW hcl hyl hl' h' (fun t2 a1 a2 a3=>hk t2 a1 (bF.trans ⟨hkp'.lo,hkp'.bO,hkp'.df⟩ a2) a3) fun ch t2 a1 a2 a3=>hkp ch t2 a1 (bF.trans ⟨hkp'.lo,hkp'.bO,hkp'.df⟩ a2) a3
   exact Hm hokW hcl hl (by rw[hg];rfl) h (fun t hl' hkp' h'=>pn hokW hcl hyl hl' h' (fun t2 a1 a2 a3=>hk t2 a1 (bF.trans ⟨hkp'.lo,hkp'.bO,hkp'.df⟩ a2) a3) fun ch t2 a1 a2 a3=>hkp ch t2 a1 (bF.trans ⟨hkp'.lo,hkp'.bO,hkp'.df⟩ a2) a3) hkp
  ·rename_i j want hg
   split at h
   ·rename_i oj hj
    split at h
    ·rename_i d hd
     split at h
     ·rename_i f b hb
      have hlt:=fun v=>a5.put hl d (.ab true .bool v:TV S)
      have ht:∀v,bg (s.put d (.ab true .bool v)).bZ d=some (.ab true .bool v):=fun v=>by simp only[ah.put,ah.bZ,bx,bg,aI,cond_true]
      split at h
      ·cases hbv:b with
       | true=>
        rw[hbv] at h
        refine CS hb hbv (Hm hokW hcl (hlt true) ?_ h (fun t hl' hkp' h'=>pn hokW hcl hyl hl' h' (fun t2 a1 a2 a3=>hk t2 a1 (bF.trans ⟨hkp'.lo,hkp'.bO,hkp'.df⟩ a2) a3) fun ch t2 a1 a2 a3=>hkp ch t2 a1 (bF.trans ⟨hkp'.lo,hkp'.bO,hkp'.df⟩ a2) a3) fun ch t2 a1 a2 a3=>hkp ch t2 a1 ⟨a2.lo,a2.bO,a2.df⟩ a3)
        rw[hg,uH hj hd (ht true)];rfl
       | false=>
        rw[hbv] at h
        dsimp only[cond_false] at h
        refine CS hb hbv ?_
        split at h
        ·rename_i s' hs
         exact Bc (hlt false) (by rw[hg,uH hj hd (ht false)];rfl) hs fun hl' hkp'=>pn hokW hcl hyl hl' h (fun t2 a1 a2 a3=>hk t2 a1 (bF.trans ⟨hkp'.lo,hkp'.bO,hkp'.df⟩ a2) a3) fun ch t2 a1 a2 a3=>hkp ch t2 a1 (bF.trans ⟨hkp'.lo,hkp'.bO,hkp'.df⟩ a2) a3
        ·cases h
      ·cases hbv:b with
       | true=>
        rw[hbv] at h
        dsimp only[cond_true] at h
        refine CS hb hbv ?_
        split at h
        ·rename_i s' hs
         exact Bc (hlt true) (by rw[hg,uH hj hd (ht true)];rfl) hs fun hl' hkp'=>pn hokW hcl hyl hl' h (fun t2 a1 a2 a3=>hk t2 a1 (bF.trans ⟨hkp'.lo,hkp'.bO,hkp'.df⟩ a2) a3) fun ch t2 a1 a2 a3=>hkp ch t2 a1 (bF.trans ⟨hkp'.lo,hkp'.bO,hkp'.df⟩ a2) a3
        ·cases h
       | false=>
        rw[hbv] at h
        refine CS hb hbv (Hm hokW hcl (hlt false) ?_ h (fun t hl' hkp' h'=>pn hokW hcl hyl hl' h' (fun t2 a1 a2 a3=>hk t2 a1 (bF.trans ⟨hkp'.lo,hkp'.bO,hkp'.df⟩ a2) a3) fun ch t2 a1 a2 a3=>hkp ch t2 a1 (bF.trans ⟨hkp'.lo,hkp'.bO,hkp'.df⟩ a2) a3) fun ch t2 a1 a2 a3=>hkp ch t2 a1 ⟨a2.lo,a2.bO,a2.df⟩ a3)
        rw[hg,uH hj hd (ht false)];rfl
     ·rename_i hb
      split at h
      ·rename_i s' hs
       exact Bc hl (by rw[hg,L0 hj hd hb]) hs fun hl' hkp'=>pn hokW hcl hyl hl' h (fun t2 a1 a2 a3=>hk t2 a1 (bF.trans ⟨hkp'.lo,hkp'.bO,hkp'.df⟩ a2) a3) fun ch t2 a1 a2 a3=>hkp ch t2 a1 (bF.trans ⟨hkp'.lo,hkp'.bO,hkp'.df⟩ a2) a3
      ·cases h
     ·cases h
    ·cases h
   ·cases h
end
end
end Go.DN
/-
 DN,part M:regions that draw their order.
-/
namespace Go.DN
open Go.AM
section
variable {S:eE}
def pP (s:ah S):List Operand→Bool
 | []=>false
 | x::r=>match cn s x with
  | some (.bl [])=>true
  | _=>pP s r
def calm (W:List Nat) (s:ah S) (o:Oper):Bool:=
 match o.op with
 | .load _ x=>match cn s x with
  | some (.ptr _ _ _)=>true
  | some (.loc h _)=>!(W.contains h)
  | some (.gK h _ _ _)=>!(W.contains h)
  | some (.bl [])=>true
  | _=>false
 | .call c=>match HY (.call c) with
  | true=>pP s c.args.toList
  | false=>true
 | .binOp op t x y t'=>match HY (.binOp op t x y t') with
  | true=>pP s [x]
  | false=>true
 | .lookup _ _ _ _=>false
 | op=>!(HY op)
def off (s:ah S) (o:Oper):Bool:=
 match o.op with
 | .load _ x=>pP s [x]
 | .call c=>pP s c.args.toList
 | .binOp _ _ x _ _=>pP s [x]
 | _=>false
def pick (f:Oper→Bool) (ops:Array Oper) (listed:Array Bool):List Nat→Option (Nat×Oper)
 | []=>none
 | i::r=>match ops[i]? with
  | some o=>match f o&&Region.free .any ops listed i with
   | true=>some (i,o)
   | false=>pick f ops listed r
  | none=>pick f ops listed r
theorem qI {f:Oper→Bool}{ops:Array Oper}{listed:Array Bool}:∀{l:List Nat}{i:Nat}{o:Oper},pick f ops listed l=some (i,o)→i∈l∧ops[i]?=some o∧f o=true∧Region.free .any ops listed i=true
 | [],_,_,h=>by cases h
 | j::r,i,o,h=>by
  simp only[pick] at h
  split at h
  ·rename_i o' ho
   split at h
   ·rename_i hc
    cases h
    simp only[aj] at hc
    exact⟨au,ho,hc.1,hc.2⟩
   ·obtain⟨h1,h2⟩:=qI h
    exact⟨ao _ h1,h2⟩
  ·obtain⟨h1,h2⟩:=qI h
   exact⟨ao _ h1,h2⟩
def wv (N:Nat) (ops:Array Oper) (s:ah S) (o:Oper){A:Type}(run:ah S→Option A) (skip:ah S→Option A):Option A:=
 match o.guard with
 | none=>run s
 | some (j,want)=>match ops[j]? with
  | some oj=>match oj.dst with
   | some d=>match bg s.bZ d with
    | some (.ab _ .bool b)=>match want with
     | true=>cond b (run (s.put d (.ab true .bool true))) (match nF N (s.put d (.ab true .bool false)) o with | some s'=>skip s' | none=>none)
     | false=>cond b (match nF N (s.put d (.ab true .bool true)) o with | some s'=>skip s' | none=>none) (run (s.put d (.ab true .bool false)))
    | some (.bl [])=>match nF N s o with
     | some s'=>skip s'
     | none=>none
    | _=>none
   | none=>none
  | none=>none
open Classical in
noncomputable def ux {A:Type}(x y:Option A):Option A:=if x=y then x else none
theorem Ps {A:Type}{x y:Option A}{r:A}(h:ux x y=some r):x=some r∧y=some r:=by
 unfold ux at h
 split at h
 ·rename_i e
  exact⟨h,e▸h⟩
 ·cases h
theorem uw {A:Type}(x:Option A):ux x x=x:=by unfold ux;simp
noncomputable def vK {A:Type}(x:Option A):Option A:=ux x x
theorem sn {A:Type}(x:Option A):vK x=x:=uw x
noncomputable def Pt {A:Type}:List (Option A)→Option A
 | []=>none
 | [x]=>x
 | x::r=>ux x (Pt r)
theorem Fw {A:Type}:∀{l:List (Option A)}{r:A},Pt l=some r→∀x∈l,x=some r
 | [],_,h,x,hx=>by cases hx
 | [y],r,h,x,hx=>by simp at hx;subst hx;exact h
 | y::z::l,r,h,x,hx=>by
  obtain⟨h1,h2⟩:=Ps h
  rcases aZ.1 hx with e | hx
  ·subst e;exact h1
  ·exact Fw h2 x hx
def HQ (ops:Array Oper) (s:ah S) (o:Oper):Bool:=
 match o.guard with
 | none=>true
 | some (j,want)=>match ops[j]? with
  | some oj=>match oj.dst with
   | some d=>match bg s.bZ d with
    | some (.ab _ .bool b)=>match b with
     | true=>want
     | false=>!want
    | _=>false
   | none=>false
  | none=>false
theorem M5 {ops:Array Oper}{s:ah S}{o:Oper}(h:HQ ops s o=true):cY ops s.er o.guard=some true:=by
 unfold HQ at h
 split at h
 ·rename_i hg;rw[hg];rfl
 ·rename_i j want hg
  rw[hg]
  split at h
  ·rename_i oj hj
   split at h
   ·rename_i d hd
    split at h
    ·rename_i f b hb
     have:get s.er.fr d=some (.val (.bool b)):=by rw[show get s.er.fr d=_ from fh hb];exact congrArg some (gf f b)
     have hw:cY ops s.er (some (j,want))=some (b==want):=by simp[cY,hj,hd,this]
     rw[hw]
     cases b <;> cases want <;> first | rfl | cases h
    ·cases h
   ·cases h
  ·cases h
def ov (ops:Array Oper){A:Type}:List Nat→ah S→(ah S→Option A)→Option A
 | [],s,k=>k s
 | i::r,s,k=>match ops[i]? with
  | some o=>match o.guard with
   | some (j,_)=>match ops[j]? with
    | some oj=>match oj.dst with
     | some d=>match bg s.bZ d with
      | some (.ab _ .bool b)=>cond b (ov ops r (s.put d (.ab true .bool true)) k) (ov ops r (s.put d (.ab true .bool false)) k)
      | _=>ov ops r s k
     | none=>ov ops r s k
    | none=>ov ops r s k
   | none=>ov ops r s k
  | none=>ov ops r s k
def Om (ops:Array Oper) (s:ah S) (o:Oper):Bool:=
 match o.guard with
 | none=>false
 | some (j,want)=>match ops[j]? with
  | some oj=>match oj.dst with
   | some d=>match bg s.bZ d with
    | some (.ab _ .bool b)=>match b with
     | true=>!want
     | false=>want
    | some (.bl [])=>true
    | _=>false
   | none=>false
  | none=>false
noncomputable def kP (P:Program) (N:Nat) (ok:Nat→Bool) (ops:Array Oper){A:Type}(cl:ah S→Option Nat→Call→(ah S→Option A)→Option A):Nat→Array Bool→ah S→(ah S→Option A)→Option A
 | 0,listed,s,k=>match Region.ready .any ops listed with
  | []=>k s
  | _=>none
 | aK+1,listed,s,k=>match Region.ready .any ops listed with
  | []=>k s
  | i0::rs=>match pick (fun o=>qc N o.dst&&((!(HX o.op)&&!(HY o.op))||off s o)&&o.dst.isSome) ops listed (i0::rs) with
   | some (i,o)=>wv N ops s o (fun s'=>match o.dst with
     | some d=>MH P s' o.op fun v x=>kP P N ok ops cl aK (listed.setIfInBounds i true) (s'.Bh d v x) k
     | none=>none) (fun s'=>kP P N ok ops cl aK (listed.setIfInBounds i true) s' k)
   | none=>match rs with
    | []=>match ops[i0]? with
     | some o=>match qc N o.dst with
      | true=>match o.dst,HX o.op&&!(D7 s o.op) with
       | some d,true=>wv N ops s o (fun s'=>Jf P [] s' o.op fun v=>kP P N ok ops cl aK (listed.setIfInBounds i0 true) (s'.put d v) k) (fun s'=>match Region.free .any ops listed i0 with
        | true=>kP P N ok ops cl aK (listed.setIfInBounds i0 true) s' k
        | false=>none)
       | _,_=>match Ln s o.op with
        | true=>wv N ops s o (fun s'=>Nv P ok cl s' o.dst o.op fun s2=>kP P N ok ops cl aK (listed.setIfInBounds i0 true) s2 k) (fun s'=>match Region.free .any ops listed i0 with
         | true=>kP P N ok ops cl aK (listed.setIfInBounds i0 true) s' k
         | false=>none)
        | false=>none
      | false=>none
     | none=>none
    | _=>ov ops (i0::rs) s fun s=>match pick (fun o=>qc N o.dst&&Om ops s o&&o.dst.isSome) ops listed (i0::rs) with
     | some (i,o)=>match nF N s o with
      | some s'=>kP P N ok ops cl aK (listed.setIfInBounds i true) s' k
      | none=>none
     | none=>Pt ((i0::rs).map fun i=>match ops[i]? with
      | some o=>match qc N o.dst&&HQ ops s o with
       | true=>match o.dst,HX o.op&&!(D7 s o.op) with
        | some d,true=>Jf P [] s o.op fun v=>kP P N ok ops cl aK (listed.setIfInBounds i true) (s.put d v) k
        | _,_=>match Ln s o.op with
         | true=>Nv P ok cl s o.dst o.op fun s2=>kP P N ok ops cl aK (listed.setIfInBounds i true) s2 k
         | false=>none
       | false=>none
      | none=>none)
noncomputable def wy (P:Program) (N:Nat) (ok:Nat→Bool) (W:List Nat) (ops:Array Oper){A:Type}(cl:ah S→Option Nat→Call→(ah S→Option A)→Option A):Nat→Array Bool→ah S→(ah S→Option A)→Option A
 | 0,listed,s,k=>kP P N ok ops cl 0 listed s k
 | aK+1,listed,s,k=>match pick (fun o=>qc N o.dst&&calm W s o&&o.dst.isSome) ops listed (Region.ready .any ops listed) with
  | some (i,o)=>wv N ops s o (fun s'=>match o.dst with
    | some d=>match HX o.op with
     | true=>Jf P W s' o.op fun v=>wy P N ok W ops cl aK (listed.setIfInBounds i true) (s'.put d v) k
     | false=>MH P s' o.op fun v x=>wy P N ok W ops cl aK (listed.setIfInBounds i true) (s'.Bh d v x) k
    | none=>none) (fun s'=>wy P N ok W ops cl aK (listed.setIfInBounds i true) s' k)
  | none=>kP P N ok ops cl (aK+1) listed s k
noncomputable def vi (P:Program) (N:Nat) (ok:Nat→Bool) (W:List Nat) (ops:Array Oper){A:Type}(cl:ah S→Option Nat→Call→(ah S→Option A)→Option A) (s:ah S) (k:ah S→Option A):Option A:=
 match Region.noSelect ops&&qQ ops.toList with
 | true=>wy P N ok W ops cl ops.size (Array.replicate ops.size false) s k
 | false=>none
section
variable {P:Program}{N:Nat}{cx:Cx}{Q:Exit→St→Prop}{W:List Nat}{ok:Nat→Bool}{A:Type}{cl:ah S→Option Nat→Call→(ah S→Option A)→Option A}{r:A}{ops:Array Oper}
theorem sS {s:ah S}{j d:Nat}{want b:Bool}{oj:Oper}(h1:ops[j]?=some oj) (h2:oj.dst=some d) (h3:bg s.bZ d=some (.ab true .bool b)):cY ops s.er (some (j,want))=some (b==want):=by
 have:get s.er.fr d=some (.val (.bool b)):=by rw[show get s.er.fr d=_ from fh h3];exact congrArg some (gf true b)
 simp[cY,h1,h2,this]
theorem Ks {s:ah S}{j d:Nat}{want:Bool}{oj:Oper}(h1:ops[j]?=some oj) (h2:oj.dst=some d) (h3:bg s.bZ d=some (.bl [])):cY ops s.er (some (j,want))=some false:=by
 have:get s.er.fr d=some (.bl []):=by rw[show get s.er.fr d=_ from fh h3];rfl
 simp[cY,h1,h2,this]
theorem Qt {s:ah S}{o:Oper}(h:Om ops s o=true):cY ops s.er o.guard=some false:=by
 unfold Om at h
 split at h
 ·cases h
 ·rename_i j want hg
  rw[hg]
  split at h
  ·rename_i oj hj
   split at h
   ·rename_i d hd
    split at h
    ·rename_i f b hb
     have:get s.er.fr d=some (.val (.bool b)):=by rw[show get s.er.fr d=_ from fh hb];exact congrArg some (gf f b)
     have hw:cY ops s.er (some (j,want))=some (b==want):=by simp[cY,hj,hd,this]
     rw[hw]
     cases b <;> cases want <;> first | rfl | cases h
    ·rename_i hb
     have:get s.er.fr d=some (.bl []):=fh hb
     simp[cY,hj,hd,this]
    ·cases h
   ·cases h
  ·cases h
theorem lB {X:St→Prop}(hlit:∀(s:St) (t:Nat) (b v:Bool),get s.fr t=some (.val (.bool b))→b=v→X {fr:=(t,.val (.bool v))::s.fr,st:=s.st,df:=s.df}→X s):∀{l:List Nat}{s:ah S}{k:ah S→Option A},a5 s→ov ops l s k=some r→
  (∀t:ah S,a5 t→bF s t→k t=some r→X t.er)→X s.er
 | [],s,k,hl,h,hk=>hk s hl (bF.refl s) h
 | i::l,s,k,hl,h,hk=>by
  have lit:∀{s:ah S}{d:Nat}{f b:Bool}(v:Bool),bg s.bZ d=some (.ab f .bool b)→b=v→X (s.put d (.ab true .bool v)).er→X s.er:=by
   intro s d f b v hb e hX
   refine hlit _ d b v ?_ e ?_
   ·rw[show get s.er.fr d=_ from fh hb];exact congrArg some (gf f b)
   ·rw[fE] at hX
    have e2:(TV.ab true .bool v:TV S).er s.ln=.val (.bool v):=gf true v
    rw[e2] at hX
    exact hX
  simp only[ov] at h
  split at h
  ·split at h
   ·split at h
    ·split at h
     ·rename_i d _
      split at h
      ·rename_i f b hb
       cases hbv:b with
       | true=>
        rw[hbv] at h
        exact lit true hb hbv (lB hlit (hl.put d _) h fun t a1 a2 a3=>hk t a1 ⟨a2.lo,a2.bO,a2.df⟩ a3)
       | false=>
        rw[hbv] at h
        exact lit false hb hbv (lB hlit (hl.put d _) h fun t a1 a2 a3=>hk t a1 ⟨a2.lo,a2.bO,a2.df⟩ a3)
      ·exact lB hlit hl h hk
     ·exact lB hlit hl h hk
    ·exact lB hlit hl h hk
   ·exact lB hlit hl h hk
  ·exact lB hlit hl h hk
theorem u5 {X:St→Prop}(hlit:∀(s:St) (t:Nat) (b v:Bool),get s.fr t=some (.val (.bool b))→b=v→X {fr:=(t,.val (.bool v))::s.fr,st:=s.st,df:=s.df}→X s)
  {s:ah S}{o:Oper}{run skip:ah S→Option A}(hl:a5 s) (h:wv N ops s o run skip=some r)
  (hrun:∀t:ah S,a5 t→bF s t→cY ops t.er o.guard=some true→run t=some r→X t.er)
  (hskip:∀(t t':ah S),a5 t→bF s t→cY ops t.er o.guard=some false→nF N t o=some t'→skip t'=some r→X t.er):X s.er:=by
 unfold wv at h
 have lit:∀{s:ah S}{d:Nat}{f b:Bool}(v:Bool),bg s.bZ d=some (.ab f .bool b)→b=v→X (s.put d (.ab true .bool v)).er→X s.er:=by
  intro s d f b v hb e hX
  refine hlit _ d b v ?_ e ?_
  ·rw[show get s.er.fr d=_ from fh hb];exact congrArg some (gf f b)
  ·rw[fE] at hX
   have e2:(TV.ab true .bool v:TV S).er s.ln=.val (.bool v):=gf true v
   rw[e2] at hX
   exact hX
 split at h
 ·rename_i hg
  exact hrun s hl (bF.refl s) (by rw[hg];rfl) h
 ·rename_i j want hg
  split at h
  ·rename_i oj hj
   split at h
   ·rename_i d hd
    split at h
    ·rename_i f b hb
     have hlt:=fun v=>a5.put hl d (.ab true .bool v:TV S)
     have ht:∀v,bg (s.put d (.ab true .bool v)).bZ d=some (.ab true .bool v):=fun v=>by simp only[ah.put,ah.bZ,bx,bg,aI,cond_true]
     split at h
     ·cases hbv:b with
      | true=>
       rw[hbv] at h
       exact lit true hb hbv (hrun _ (hlt true) ⟨rfl,rfl,rfl⟩ (by rw[hg,sS hj hd (ht true)];rfl) h)
      | false=>
       rw[hbv] at h
       dsimp only[cond_false] at h
       refine lit false hb hbv ?_
       split at h
       ·rename_i s' hs
        exact hskip _ s' (hlt false) ⟨rfl,rfl,rfl⟩ (by rw[hg,sS hj hd (ht false)];rfl) hs h
       ·cases h
     ·cases hbv:b with
      | true=>
       rw[hbv] at h
       dsimp only[cond_true] at h
       refine lit true hb hbv ?_
       split at h
       ·rename_i s' hs
        exact hskip _ s' (hlt true) ⟨rfl,rfl,rfl⟩ (by rw[hg,sS hj hd (ht true)];rfl) hs h
       ·cases h
      | false=>
       rw[hbv] at h
       exact lit false hb hbv (hrun _ (hlt false) ⟨rfl,rfl,rfl⟩ (by rw[hg,sS hj hd (ht false)];rfl) h)
    ·rename_i hb
     split at h
     ·rename_i s' hs
      exact hskip _ s' hl (bF.refl s) (by rw[hg,Ks hj hd hb]) hs h
     ·cases h
    ·cases h
   ·cases h
  ·cases h
theorem pH {s t:ah S}{o:Oper}{d:Nat}(hd:o.dst=some d) (h:nF N s o=some t):d<N∧t=s.put d (.bl []):=by
 unfold nF at h
 rw[hd] at h
 dsimp only at h
 split at h
 ·rename_i hN
  cases h
  exact⟨by simpa[fW] using hN,rfl⟩
 ·cases h
theorem dS.SA {s:St}{aK:Nat}{listed:Array Bool}(i:Nat){o:Oper}(hi:ops[i]?=some o) (hs:Region.noSelect ops=true) (hf:Region.free .any ops listed i=true)
  (hr:(Region.ready .any ops listed).contains i=true) (hw:cY ops s o.guard=some false) (hd:o.dst=none)
  (h:dS P N cx ops Q W aK (listed.setIfInBounds i true) s):dS P N cx ops Q W (aK+1) listed s:=by
 intro ws Wb μ a w hrel hS hW
 refine wpAnyH_take (v:=undef) hi hs hf hr (fun c a' w' h=>(by rw[hd] at h;exact h)) (.inr ⟨dN hrel hw,rfl⟩) hS ?_
 rw[hd]
 exact h ws Wb μ _ w hrel hS hW
theorem iP (hokW:∀h,ok h=true→W.contains h=true){kp:List PanicEntry→ah S→Option A}(hcl:zT P N W cl kp r) (hs:Region.noSelect ops=true) (hpn:DA Q (qY ops)):∀{aK:Nat}{listed:Array Bool}{s:ah S}{k:ah S→Option A},a5 s→kP P N ok ops cl aK listed s k=some r→
  (∀t:ah S,a5 t→bF s t→k t=some r→Q .normal t.er)→(∀ch (t:ah S),a5 t→bF s t→kp ch t=some r→∃u,Gh t.er u∧Q (.panic ch) u)→dS P N cx ops Q W aK listed s.er
 | 0,listed,s,k,hl,h,hk,hkp=>by
  unfold kP at h
  split at h
  ·rename_i hr
   exact dS.done hr (hk s hl (bF.refl s) h)
  ·cases h
 | aK+1,listed,s,k,hl,h,hk,hkp0=>by
  unfold kP at h
  split at h
  ·rename_i hr
   exact dS.done hr (hk s hl (bF.refl s) h)
  ·rename_i i0 rs hr
   split at h
   ·rename_i i o hp
    obtain⟨p1,p2,p3,p4⟩:=qI hp
    simp only[aj] at p3
    obtain⟨⟨q1,q2⟩,q4⟩:=p3
    have hcon:(Region.ready .any ops listed).contains i=true:=by rw[hr];exact fL.2 p1
    refine u5 (X:=fun s=>dS P N cx ops Q W (aK+1) listed s) (fun s t b v h1 h2 h3=>dS.lit t h1 h2 h3) hl h (fun t hl' hkp hw h'=>?_) (fun t t' hl' hkp hw hsk h'=>?_)
    ·cases hd:o.dst with
     | none=>rw[hd] at q4;cases q4
     | some d=>
      rw[hd] at h' q1
      dsimp only at h'
      have hN:d<N:=by simpa[qc,fW] using q1
      obtain⟨v,x,h1,h2,h3⟩:=Ha (dst:=o.dst) (ty:=o.type) (pos:=o.pos) (after:=o.after) (guard:=o.guard) h'
      refine dS.take i hpn p2 hs p4 hcon hw hd hN h1 ?_
      rw[←DT t d v x]
      exact iP hokW hcl hs hpn (DS hl' d h2) h3 (fun t2 a1 a2 a3=>hk t2 a1 ((hkp.trans (rV t d v x)).trans a2) a3) fun ch t2 a1 a2 a3=>hkp0 ch t2 a1 ((hkp.trans (rV t d v x)).trans a2) a3
    ·cases hd:o.dst with
     | none=>rw[hd] at q4;cases q4
     | some d=>
      obtain⟨hN,e⟩:=pH hd hsk
      subst e
      exact dS.Aa i hpn p2 hs p4 hcon hw hd hN (iP hokW hcl hs hpn (hl'.put _ _) h' (fun t2 a1 a2 a3=>hk t2 a1 (hkp.trans ⟨a2.lo,a2.bO,a2.df⟩) a3) fun ch t2 a1 a2 a3=>hkp0 ch t2 a1 (hkp.trans ⟨a2.lo,a2.bO,a2.df⟩) a3)
   ·split at h
    ·split at h
     ·rename_i o ho
      split at h
      ·rename_i hdN
       split at h
       ·rename_i d hd hld
        have hN:d<N:=by rw[hd] at hdN;simpa[qc,fW] using hdN
        refine u5 (X:=fun s=>dS P N cx ops Q W (aK+1) listed s) (fun s t b v h1 h2 h3=>dS.lit t h1 h2 h3) hl h (fun t hl' hkp hw h'=>?_) (fun t t' hl' hkp hw hsk h'=>?_)
        ·obtain⟨v,h1,h2⟩:=Cg (dst:=o.dst) (ty:=o.type) (pos:=o.pos) (after:=o.after) (guard:=o.guard) hl' h'
         exact dS.S8 i0 hr ho hw hd hN h1 (iP hokW hcl hs hpn (hl'.put d v) h2 (fun t2 a1 a2 a3=>hk t2 a1 (hkp.trans ⟨a2.lo,a2.bO,a2.df⟩) a3) fun ch t2 a1 a2 a3=>hkp0 ch t2 a1 (hkp.trans ⟨a2.lo,a2.bO,a2.df⟩) a3)
        ·split at h'
         ·rename_i hf
          obtain⟨_,e⟩:=pH hd hsk
          subst e
          exact dS.Aa i0 hpn ho hs hf (by rw[hr];simp) hw hd hN (iP hokW hcl hs hpn (hl'.put _ _) h' (fun t2 a1 a2 a3=>hk t2 a1 (hkp.trans ⟨a2.lo,a2.bO,a2.df⟩) a3) fun ch t2 a1 a2 a3=>hkp0 ch t2 a1 (hkp.trans ⟨a2.lo,a2.bO,a2.df⟩) a3)
         ·cases h'
       ·split at h
        ·refine u5 (X:=fun s=>dS P N cx ops Q W (aK+1) listed s) (fun s t b v h1 h2 h3=>dS.lit t h1 h2 h3) hl h (fun t hl' hkp hw h'=>?_) (fun t t' hl' hkp hw hsk h'=>?_)
         ·obtain⟨T,Tp,h1,h2,h2p⟩:=Iw hokW hcl hl' h'
          refine dS.S9 i0 hr ho hw (fun d e=>?_) (lz.tell (Tp':=fun ch u=>Q (.panic ch) u) h1 fun ch s' ht=>?_) (fun s' ht=>?_) fun _ _ h=>h
          ·rw[e] at hdN;simpa[qc,fW] using hdN
          ·obtain⟨t2,g1,g2,g3,g4⟩:=h2p ch s' ht
           obtain⟨u,g5,g6⟩:=hkp0 ch t2 g2 (hkp.trans g3) g4
           exact⟨u,g1.trans g5,g6⟩
          ·obtain⟨t2,g1,g2,g3,g4⟩:=h2 s' ht
           exact dS.gh g1 (iP hokW hcl hs hpn g2 g4 (fun t3 a1 a2 a3=>hk t3 a1 ((hkp.trans g3).trans a2) a3) fun ch t3 a1 a2 a3=>hkp0 ch t3 a1 ((hkp.trans g3).trans a2) a3)
         ·split at h'
          ·rename_i hf
           cases hd:o.dst with
           | none=>
            unfold nF at hsk
            rw[hd] at hsk
            dsimp only at hsk
            cases hsk
            exact dS.SA i0 ho hs hf (by rw[hr];simp) hw hd (iP hokW hcl hs hpn hl' h' (fun t2 a1 a2 a3=>hk t2 a1 (hkp.trans ⟨a2.lo,a2.bO,a2.df⟩) a3) fun ch t2 a1 a2 a3=>hkp0 ch t2 a1 (hkp.trans ⟨a2.lo,a2.bO,a2.df⟩) a3)
           | some d=>
            obtain⟨hN,e⟩:=pH hd hsk
            subst e
            exact dS.Aa i0 hpn ho hs hf (by rw[hr];simp) hw hd hN (iP hokW hcl hs hpn (hl'.put _ _) h' (fun t2 a1 a2 a3=>hk t2 a1 (hkp.trans ⟨a2.lo,a2.bO,a2.df⟩) a3) fun ch t2 a1 a2 a3=>hkp0 ch t2 a1 (hkp.trans ⟨a2.lo,a2.bO,a2.df⟩) a3)
          ·cases h'
        ·cases h
      ·cases h
     ·cases h
    ·refine lB (X:=fun s=>dS P N cx ops Q W (aK+1) listed s) (fun s t b v h1 h2 h3=>dS.lit t h1 h2 h3) hl h fun s1 hl1 hk1 h=>?_
     split at h
     ·rename_i i o hp
      obtain⟨p1,p2,p3,p4⟩:=qI hp
      simp only[aj] at p3
      obtain⟨⟨q1,q2⟩,q4⟩:=p3
      have hcon:(Region.ready .any ops listed).contains i=true:=by rw[hr];exact fL.2 p1
      split at h
      ·rename_i s' hsk
       cases hd:o.dst with
       | none=>rw[hd] at q4;cases q4
       | some d=>
        obtain⟨hN,e⟩:=pH hd hsk
        subst e
        exact dS.Aa i hpn p2 hs p4 hcon (Qt q2) hd hN (iP hokW hcl hs hpn (hl1.put _ _) h (fun t2 a1 a2 a3=>hk t2 a1 (hk1.trans ⟨a2.lo,a2.bO,a2.df⟩) a3) fun ch t2 a1 a2 a3=>hkp0 ch t2 a1 (hk1.trans ⟨a2.lo,a2.bO,a2.df⟩) a3)
      ·cases h
     ·have hall:=Fw h
      refine dS.any i0 rs hr ?_
      have eo:∀i,i∈i0::rs→uA P N cx ops Q W aK listed s1.er i:=by
       intro i hi
       have hx:=hall _ (jH hi)
       split at hx
       ·rename_i o ho
        split at hx
        ·rename_i hc
         simp only[aj] at hc
         obtain⟨hdN,hkn⟩:=hc
         have hw:=M5 hkn
         split at hx
         ·rename_i d hd hld
          have hN:d<N:=by rw[hd] at hdN;simpa[qc,fW] using hdN
          obtain⟨v,h1,h2⟩:=Cg (dst:=o.dst) (ty:=o.type) (pos:=o.pos) (after:=o.after) (guard:=o.guard) hl1 hx
          exact uA.y i ho hw hd hN h1 (iP hokW hcl hs hpn (hl1.put d v) h2 (fun t2 a1 a2 a3=>hk t2 a1 (hk1.trans ⟨a2.lo,a2.bO,a2.df⟩) a3) fun ch t2 a1 a2 a3=>hkp0 ch t2 a1 (hk1.trans ⟨a2.lo,a2.bO,a2.df⟩) a3)
         ·split at hx
          ·obtain⟨T,Tp,h1,h2,h2p⟩:=Iw hokW hcl hl1 hx
           refine uA.eP i ho hw (fun d e=>?_) (lz.tell (Tp':=fun ch u=>Q (.panic ch) u) h1 fun ch s' ht=>?_) (fun s' ht=>?_) fun _ _ h=>h
           ·rw[e] at hdN;simpa[qc,fW] using hdN
           ·obtain⟨t2,g1,g2,g3,g4⟩:=h2p ch s' ht
            obtain⟨u,g5,g6⟩:=hkp0 ch t2 g2 (hk1.trans g3) g4
            exact⟨u,g1.trans g5,g6⟩
           ·obtain⟨t2,g1,g2,g3,g4⟩:=h2 s' ht
            exact dS.gh g1 (iP hokW hcl hs hpn g2 g4 (fun t3 a1 a2 a3=>hk t3 a1 (hk1.trans (g3.trans a2)) a3) fun ch t3 a1 a2 a3=>hkp0 ch t3 a1 (hk1.trans (g3.trans a2)) a3)
          ·cases hx
        ·cases hx
       ·cases hx
      clear hr hall h
      generalize i0::rs=l at eo
      induction l with
      | nil=>exact trivial
      | cons x r ih=>exact⟨eo x au,ih fun i hi=>eo i (ao _ hi)⟩
theorem vg (hokW:∀h,ok h=true→W.contains h=true){kp:List PanicEntry→ah S→Option A}(hcl:zT P N W cl kp r) (hs:Region.noSelect ops=true) (hpn:DA Q (qY ops)):∀{aK:Nat}{listed:Array Bool}{s:ah S}{k:ah S→Option A},a5 s→wy P N ok W ops cl aK listed s k=some r→
  (∀t:ah S,a5 t→bF s t→k t=some r→Q .normal t.er)→(∀ch (t:ah S),a5 t→bF s t→kp ch t=some r→∃u,Gh t.er u∧Q (.panic ch) u)→mh P N cx ops Q W aK listed s.er
 | 0,listed,s,k,hl,h,hk,hkp0=>mh.FX (iP hokW hcl hs hpn hl h hk hkp0)
 | aK+1,listed,s,k,hl,h,hk,hkp0=>by
  unfold wy at h
  split at h
  ·rename_i i o hp
   obtain⟨p1,p2,p3,p4⟩:=qI hp
   simp only[aj] at p3
   obtain⟨⟨q1,q2⟩,q4⟩:=p3
   have hcon:(Region.ready .any ops listed).contains i=true:=fL.2 p1
   refine u5 (X:=fun s=>mh P N cx ops Q W (aK+1) listed s) (fun s t b v h1 h2 h3=>mh.lit t h1 h2 h3) hl h (fun t hl' hkp hw h'=>?_) (fun t t' hl' hkp hw hsk h'=>?_)
   ·cases hd:o.dst with
    | none=>rw[hd] at q4;cases q4
    | some d=>
     rw[hd] at h' q1
     dsimp only at h'
     have hN:d<N:=by simpa[qc,fW] using q1
     split at h'
     ·obtain⟨v,h1,h2⟩:=Cg (dst:=o.dst) (ty:=o.type) (pos:=o.pos) (after:=o.after) (guard:=o.guard) hl' h'
      exact mh.take i hpn p2 hs p4 hcon hw hd hN h1 (vg hokW hcl hs hpn (hl'.put d v) h2 (fun t2 a1 a2 a3=>hk t2 a1 (hkp.trans ⟨a2.lo,a2.bO,a2.df⟩) a3) fun ch t2 a1 a2 a3=>hkp0 ch t2 a1 (hkp.trans ⟨a2.lo,a2.bO,a2.df⟩) a3)
     ·obtain⟨v,x,h1,h2,h3⟩:=Ha (dst:=o.dst) (ty:=o.type) (pos:=o.pos) (after:=o.after) (guard:=o.guard) h'
      refine mh.take i hpn p2 hs p4 hcon hw hd hN (h1.yield W) ?_
      rw[←DT t d v x]
      exact vg hokW hcl hs hpn (DS hl' d h2) h3 (fun t2 a1 a2 a3=>hk t2 a1 ((hkp.trans (rV t d v x)).trans a2) a3) fun ch t2 a1 a2 a3=>hkp0 ch t2 a1 ((hkp.trans (rV t d v x)).trans a2) a3
   ·cases hd:o.dst with
    | none=>rw[hd] at q4;cases q4
    | some d=>
     obtain⟨hN,e⟩:=pH hd hsk
     subst e
     exact mh.Aa i hpn p2 hs p4 hcon hw hd hN (vg hokW hcl hs hpn (hl'.put _ _) h' (fun t2 a1 a2 a3=>hk t2 a1 (hkp.trans ⟨a2.lo,a2.bO,a2.df⟩) a3) fun ch t2 a1 a2 a3=>hkp0 ch t2 a1 (hkp.trans ⟨a2.lo,a2.bO,a2.df⟩) a3)
  ·exact mh.FX (iP hokW hcl hs hpn hl h hk hkp0)
theorem Ix {id:Nat}(hm:P.follows .mixedOrders=true) (hokW:∀h,ok h=true→W.contains h=true){kp:List PanicEntry→ah S→Option A}(hcl:zT P N W cl kp r){s:ah S}{k:ah S→Option A}(hl:a5 s) (h:vi P N ok W ops cl s k=some r)
  (hk:∀t:ah S,a5 t→bF s t→k t=some r→Q .normal t.er) (hkp:∀ch (t:ah S),a5 t→bF s t→kp ch t=some r→∃u,Gh t.er u∧Q (.panic ch) u∧∀d,d∈qY ops→get u.fr d=none):GW P N cx (.region id ops true) Q s.er:=by
 unfold vi at h
 split at h
 ·rename_i hc
  simp only[aj] at hc
  refine(GW.F5 (Q:=fun e s=>Q e s∧∀ch,e=.panic ch→∀d,d∈qY ops→get s.fr d=none) W hm (vg hokW hcl hc.1 (fun c s h d hd=>h.2 c rfl d hd) hl h (fun t a b c=>⟨hk t a b c,fun ch e=>by cases e⟩) fun ch t a b c=>?_) hc.2).mono fun e s h=>h.1
  obtain⟨u,g1,g2,g3⟩:=hkp ch t a b c
  exact⟨u,g1,g2,fun _ _=>g3⟩
 ·cases h
end
end
end Go.DN
