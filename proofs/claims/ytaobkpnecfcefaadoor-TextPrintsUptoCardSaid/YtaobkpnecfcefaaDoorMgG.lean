/-
  DN, second part.
-/
import Derived.Test.YtaobkpnecfcefaaDoorMgC
import Derived.Test.YtaobkpnecfcefaaDoorMgF
set_option linter.unusedSectionVars false
set_option linter.unusedSimpArgs false
set_option linter.unusedVariables false
/-
 DN,part Kd:slices of slices.
-/
namespace Go.DN
open Go.AM
def memN (d:Nat):List Nat→Bool
 | []=>false
 | x::r=>bif Nat.beq x d then true else memN d r
theorem memN_iff {d:Nat}:∀{l:List Nat},memN d l=true↔d∈l
 | []=>by simp[memN]
 | x::r=>by
  simp only[memN,List.mem_cons]
  cases hb:Nat.beq x d with
  | true=>have:=Nat.eq_of_beq_eq_true hb;subst this;simp
  | false=>
   rw[cond_false,memN_iff]
   constructor
   ·exact .inr
   ·rintro(e | h)
    ·subst e;rw[Nat.beq_refl] at hb;cases hb
    ·exact h
section
variable {S:Sig}
theorem LInv_nil {t:TSt S}(h:t.last=[]):LInv t:=fun d hh x hm=>by rw[h] at hm;cases hm
def TV.unK (h:Nat):TV S→TV S
 | .kp x τ i j=>bif Nat.beq x h then .any else .kp x τ i j
 | .kpo b x τ i j=>bif Nat.beq x h&&!b then .any else .kpo b x τ i j
 | .ks x τ i n=>bif Nat.beq x h then .any else .ks x τ i n
 | .agg l=>.agg (go l)
 | .tup l=>.tup (go l)
 | .clo f l=>.clo f (go l)
 | v=>v
where go:List (TV S)→List (TV S)
 | []=>[]
 | v::r=>v.unK h::go r
theorem unK_Pl {h:Nat}{m:G}(hm:Pl m) (f:Bool):AM.unK h (frB f m)=frB f m:=by
 rcases hm with ⟨u,rfl⟩ | ⟨n,cs,rfl⟩ | ⟨b,rfl⟩ <;> cases f <;> rfl
mutual
theorem unK_er (ln:Nat→Nat) (h:Nat):∀v:TV S,(v.unK h).er ln=AM.unK h (v.er ln)
 | .dat f τ a=>by
  cases τ with
  | st n=>
   show G.agg ((encT S (.st n) a).map (frB f))=.agg (AM.unK.go h ((encT S (.st n) a).map (frB f)))
   have hp:=enc_Pl (S:=S) (.st n) a
   generalize encT S (.st n) a=l at hp
   congr 1
   induction l with
   | nil=>rfl
   | cons x r ih=>
    simp only[List.map_cons,AM.unK.go]
    rw[unK_Pl (hp x List.mem_cons_self),←ih fun y hy=>hp y (List.mem_cons_of_mem _ hy)]
  | _=>cases f <;> rfl
 | .ptr f τ a=>by cases f <;> rfl
 | .agg l=>by show G.agg _=G.agg _;rw[unK_erL ln h l]
 | .tup l=>by show G.tup _=G.tup _;rw[unK_erL ln h l]
 | .clo f l=>by show G.clo _ _=G.clo _ _;rw[unK_erL ln h l]
 | .kp x τ i j=>by
  show(bif Nat.beq x h then(TV.any:TV S) else .kp x τ i j).er ln=bif Nat.beq x h then G.any else .kp x i (j*S.sz τ)
  cases Nat.beq x h <;> rfl
 | .kpo b x τ i j=>by
  cases b with
  | true=>
   show(bif Nat.beq x h&&false then _ else _:TV S).er ln=.val _
   rw[Bool.and_false];rfl
  | false=>
   show(bif Nat.beq x h&&true then _ else _:TV S).er ln=bif Nat.beq x h then G.any else .kp x i (j*S.sz τ)
   cases Nat.beq x h <;> rfl
 | .ks x τ i n=>by
  show(bif Nat.beq x h then(TV.any:TV S) else .ks x τ i n).er ln=bif Nat.beq x h then G.any else .ks x i (S.sz τ) n
  cases Nat.beq x h <;> rfl
 | .lpo b _ _=>by cases b <;> rfl
 | .loc _ _=>rfl
 | .elt _ _ _ _=>rfl
 | .osl _ _=>rfl
 | .sub _ _ _ _=>rfl
 | .yld _=>rfl
 | .mp _=>rfl
 | .val _=>rfl
 | .any=>rfl
theorem unK_erL (ln:Nat→Nat) (h:Nat):∀l:List (TV S),TV.er.go ln (TV.unK.go h l)=AM.unK.go h (TV.er.go ln l)
 | []=>rfl
 | v::r=>by simp only[TV.unK.go,TV.er.go,AM.unK.go,unK_er ln h v,unK_erL ln h r]
end
mutual
theorem unK_id {h:Nat}:∀v:TV S,v.has h=false→v.unK h=v
 | .kp x τ i j,e=>by
  show(bif Nat.beq x h then _ else _)=_
  rw[show Nat.beq x h=false from e];rfl
 | .kpo b x τ i j,e=>by
  have e:(Nat.beq x h&&!b)=false:=e
  show(bif Nat.beq x h&&!b then _ else _)=_
  rw[e];rfl
 | .ks x τ i n,e=>by
  show(bif Nat.beq x h then _ else _)=_
  rw[show Nat.beq x h=false from e];rfl
 | .agg l,e=>congrArg TV.agg (unK_idL l e)
 | .tup l,e=>congrArg TV.tup (unK_idL l e)
 | .clo f l,e=>congrArg (TV.clo f) (unK_idL l e)
 | .dat _ _ _,_=>rfl
 | .ptr _ _ _,_=>rfl
 | .lpo _ _ _,_=>rfl
 | .loc _ _,_=>rfl
 | .elt _ _ _ _,_=>rfl
 | .osl _ _,_=>rfl
 | .sub _ _ _ _,_=>rfl
 | .yld _,_=>rfl
 | .mp _,_=>rfl
 | .val _,_=>rfl
 | .any,_=>rfl
theorem unK_idL {h:Nat}:∀l:List (TV S),TV.has.go h l=false→TV.unK.go h l=l
 | [],_=>rfl
 | v::r,e=>by
  simp only[TV.has.go,Bool.or_eq_false_iff] at e
  simp only[TV.unK.go,unK_id v e.1,unK_idL r e.2]
end
def hasL (v:TV S):List Nat→Bool
 | []=>false
 | x::r=>v.has x||hasL v r
def TV.fk (h:Nat) (rm:List Nat) (v:TV S):TV S:=match hasL v rm with | true=>.any | false=>v.unK h
def fkF (h:Nat) (rm:List Nat):List (Nat×TV S)→List (Nat×TV S)
 | []=>[]
 | (t,v)::r=>(t,v.fk h rm)::fkF h rm r
def TO.fk (h:Nat) (rm:List Nat):TO S→TO S
 | .box e m cs=>.box e m (cs.map (TV.fk h rm))
 | .lp l n cs=>.lp l n (cs.map (TV.fk h rm))
 | o=>o
def fkS (h:Nat) (rm:List Nat):List (Nat×TO S)→List (Nat×TO S)
 | []=>[]
 | (t,o)::r=>match memN t rm with
  | true=>fkS h rm r
  | false=>(t,o.fk h rm)::fkS h rm r
def TSt.hand (s:TSt S) (h:Nat) (rm:List Nat) (o:TO S):TSt S:={s with fr:=fkF h rm s.fr,st:=(h,o)::fkS h rm s.st,last:=[]}
def thawT (s:TSt S) (h kty:Nat){A:Type}(k:TSt S→Option A):Option A:=
 none
theorem thawT_ok {s:TSt S}{h kty:Nat}{A:Type}{k:TSt S→Option A}{r:A}(hl:LInv s) (e:thawT s h kty k=some r):∃t,Gh s.er t.er∧LInv t∧Keep s t∧k t=some r:=by
 unfold thawT at e
 cases e
def unfamT (s:TSt S) (h:Nat):Option (TSt S):=
 none
theorem unfamT_ok {s t:TSt S}{h:Nat}(hl:LInv s) (e:unfamT s h=some t):Gh s.er t.er∧LInv t∧Keep s t:=by
 unfold unfamT at e
 cases e
def unrowsT (s:TSt S) (h:Nat):Option (TSt S):=
 none
theorem unrowsT_ok {s t:TSt S}{h:Nat}(hl:LInv s) (e:unrowsT s h=some t):Gh s.er t.er∧LInv t∧Keep s t:=by
 unfold unrowsT at e
 cases e
def isRows (s:TSt S) (h:Nat):Bool:=match oget s.stA h with
 | some (.deep _ _ _ (.rows _ _) _ _)=>true
 | _=>false
def isDeep (s:TSt S) (h:Nat):Bool:=match oget s.stA h with
 | some (.deep ..)=>true
 | _=>false
def freezeT (s:TSt S) (h:Nat):Option (TSt S):=
 match isDeep s h with
 | true=>match (match isRows s h with | true=>unrowsT s h | false=>unfamT s h) with
  | some s'=>freezeA s' h
  | none=>none
 | false=>freezeA s h
theorem freezeT_ok {s t:TSt S}{h:Nat}(hl:LInv s) (hf:freezeT s h=some t):Gh s.er t.er∧LInv t∧Keep s t:=by
 unfold freezeT at hf
 split at hf
 ·split at hf
  ·rename_i s' hs
   have hs2:Gh s.er s'.er∧LInv s'∧Keep s s':=by
    split at hs
    ·exact unrowsT_ok hl hs
    ·exact unfamT_ok hl hs
   obtain⟨a1,a2,a3⟩:=hs2
   obtain⟨b1,b2,b3⟩:=freezeA_ok a2 hf
   exact⟨a1.trans b1,b2,a3.trans b3⟩
  ·cases hf
 ·exact freezeA_ok hl hf
def famStC (P:Program) (ok:Nat→Bool) (s:TSt S) (t:TypeId) (x y:Operand){A:Type}(k:TSt S→Option A):Option A:=
 none
theorem famStC_ok {P:Program}{W:List Nat}{ok:Nat→Bool}(hokW:∀h,ok h=true→W.contains h=true){s:TSt S}{t:TypeId}{x y:Operand}{ty:TypeId}{pos:String}{after:Array Edge}{guard:Option (Nat×Bool)}{A:Type}{k:TSt S→Option A}{r:A}
  (hl:LInv s) (h:famStC P ok s t x y k=some r):EfOk P W s ⟨none,.store t x y,ty,pos,after,guard⟩ k r:=by
 unfold famStC at h
 cases h
mutual
theorem unKG_no {h:Nat}:∀g:G,g.hasH h=false→AM.unK h g=g
 | .kp x i off,e=>by
  show(bif Nat.beq x h then _ else _)=_
  rw[show Nat.beq x h=false from e];rfl
 | .ks x i sz n,e=>by
  show(bif Nat.beq x h then _ else _)=_
  rw[show Nat.beq x h=false from e];rfl
 | .agg gs,e=>congrArg G.agg (unKG_noL gs e)
 | .tup gs,e=>congrArg G.tup (unKG_noL gs e)
 | .clo f gs,e=>congrArg (G.clo f) (unKG_noL gs e)
 | .loc _ _,_=>rfl
 | .osl _ _ _ _,_=>rfl
 | .yld _,_=>rfl
 | .mref _,_=>rfl
 | .any,_=>rfl
 | .val _,_=>rfl
 | .ifc _,_=>rfl
 | .sl _ _,_=>rfl
 | .ptr _,_=>rfl
 | .fr _,_=>rfl
theorem unKG_noL {h:Nat}:∀gs:List G,G.hasH.go h gs=false→AM.unK.go h gs=gs
 | [],_=>rfl
 | x::r,e=>by
  simp only[G.hasH.go,Bool.or_eq_false_iff] at e
  simp only[AM.unK.go,unKG_no x e.1,unKG_noL r e.2]
end
def famBslC (P:Program) (ok:Nat→Bool) (s:TSt S) (d:Nat) (t:TypeId) (n:Nat) (parts:Array (Nat×Operand)){A:Type}(k:TSt S→Option A):Option A:=
 none
theorem famBslC_ok {P:Program}{W:List Nat}{ok:Nat→Bool}(hokW:∀h,ok h=true→W.contains h=true){s:TSt S}{d:Nat}{t:TypeId}{n:Nat}{parts:Array (Nat×Operand)}{ty:TypeId}{pos:String}{after:Array Edge}{guard:Option (Nat×Bool)}{A:Type}{k:TSt S→Option A}{r:A}
  (hl:LInv s) (h:famBslC P ok s d t n parts k=some r):EfOk P W s ⟨some d,.buildSlice t n parts,ty,pos,after,guard⟩ k r:=by
 unfold famBslC at h
 cases h
def famAppC (P:Program) (ok:Nat→Bool) (s:TSt S) (d:Nat) (c:Call){A:Type}(k:TSt S→Option A):Option A:=
 none
theorem famAppC_ok {P:Program}{W:List Nat}{ok:Nat→Bool}(hokW:∀h,ok h=true→W.contains h=true){s:TSt S}{d:Nat}{args:Array Operand}{ts:Array TypeId}{ty:TypeId}{pos:String}{after:Array Edge}{guard:Option (Nat×Bool)}{A:Type}{k:TSt S→Option A}{r:A}
  (hl:LInv s) (hq:famAppC P ok s d ⟨.builtin .append,args,ts⟩ k=some r):EfOk P W s ⟨some d,.call ⟨.builtin .append,args,ts⟩,ty,pos,after,guard⟩ k r:=by
 unfold famAppC at hq
 cases hq
end
end Go.DN
/-
 DN,part Ke:slices that are written no more,slices that are adopted,slices whose end is cut off.
-/
namespace Go.DN
open Go.AM
section
variable {S:Sig}
def TV.osls:TV S→List Nat
 | .osl h _=>[h]
 | .sub h _ _ _=>[h]
 | .agg l=>go l
 | .tup l=>go l
 | _=>[]
where go:List (TV S)→List Nat
 | []=>[]
 | x::r=>x.osls++go r
def fzAll:List Nat→TSt S→Option (TSt S)
 | [],s=>some s
 | h::r,s=>match oget s.stA h with
  | none=>fzAll r s
  | some _=>match freezeT s h with
   | some s'=>fzAll r s'
   | none=>none
theorem fzAll_ok:∀{l:List Nat}{s t:TSt S},LInv s→fzAll l s=some t→Gh s.er t.er∧LInv t∧Keep s t
 | [],s,t,hl,h=>by cases h;exact⟨Gh.refl _,hl,Keep.refl s⟩
 | x::r,s,t,hl,h=>by
  simp only[fzAll] at h
  split at h
  ·exact fzAll_ok hl h
  ·split at h
   ·rename_i s' hs
    obtain⟨a1,a2,a3⟩:=freezeT_ok hl hs
    obtain⟨b1,b2,b3⟩:=fzAll_ok a2 h
    exact⟨a1.trans b1,b2,a3.trans b3⟩
   ·cases h
def oslsO (s:TSt S):List Operand→List Nat
 | []=>[]
 | x::r=>(match tev s x with | some v=>v.osls | none=>[])++oslsO s r
theorem flatMap_take {α β:Type}{f:α→List β}{z:Nat}(hf:∀a,(f a).length=z):∀(l:List α) (n:Nat),List.flatMap f (l.take n)=(List.flatMap f l).take (n*z)
 | [],n=>by simp
 | x::r,0=>by simp
 | x::r,n+1=>by
  simp only[List.take_succ_cons,List.flatMap_cons]
  have e1:(n+1)*z-z=n*z:=by rw[Nat.succ_mul];omega
  have e2:(f x).length≤(n+1)*z:=by rw[hf x,Nat.succ_mul];omega
  rw[flatMap_take hf r n,List.take_append,hf x,e1,List.take_of_length_le (l:=f x) e2]
theorem Gh.adoptC {s:St}(hh j hd:Nat) (e:TypeId) (sz:Nat){k:Blk}(hk:sget s.st hh=some k) (hp:k.pure=false) (hj:k.cells[j]?=some (.val (.slice none 0 0))) (hf:fresh s hd=true) (hlp:k.lp=none):
  Gh s {fr:=s.fr,st:=sset ((hd,⟨e,true,true,true,sz,[],none⟩)::s.st) hh {k with cells:=k.cells.set j (.osl hd sz 0 0)},df:=s.df}:=fun N cx μ a w h=>by
 have h1:=h.newNil hd ⟨e,true,true,true,sz,[],none⟩ hf rfl rfl
 have hne:hh≠hd:=fun e=>by
  subst e
  obtain⟨h2,_⟩:=fresh_spec hf
  rw[hk] at h2;cases h2
 have hk2:sget ((hd,(⟨e,true,true,true,sz,[],none⟩:Blk))::s.st) hh=some k:=by rw[sget_cons_other _ _ hne];exact hk
 refine⟨_,h1.restate (s:={fr:=s.fr,st:=(hd,⟨e,true,true,true,sz,[],none⟩)::s.st,df:=s.df}) hk2 rfl rfl rfl (by simp) hlp hlp fun i g' hg'=>?_,Gh.same fun x k1 b m hx hm=>?_⟩
 ·simp only[List.getElem?_set] at hg'
  by_cases e:j=i
  ·subst e
   rw[if_pos rfl] at hg'
   split at hg'
   ·cases hg'
    refine⟨_,hj,fun v hv=>?_⟩
    unfold RepC at hv⊢
    simp only[hp] at hv⊢
    cases hv with
    | imm hv=>cases hv;exact .onil hd sz (upd_same _ _ _)
   ·cases hg'
  ·rw[if_neg e] at hg'
   refine⟨g',hg',fun v hv=>?_⟩
   unfold RepC at hv⊢
   exact hv
 ·by_cases e1:x=hd
  ·subst e1;rw[upd_same] at hm;cases hm
  ·rw[upd_other e1] at hm
   rcases sget_sset_iff hk2 hx with ⟨e2,_⟩ | ⟨e2,h3⟩
   ·subst e2;exact⟨k,hk,hm⟩
   ·rw[sget_cons_other _ _ e1] at h3;exact⟨k1,h3,hm⟩
theorem adoptC_ok {s:TSt S}{h j hd:Nat}{e e':TypeId}{m:Bool}{cs:List (TV S)}{τ:Ty}(hl:LInv s) (ho:oget s.st h=some (.box e' m cs)) (hj:cs[j]?=some (.val (.slice none 0 0))) (hf:s.free hd=true):
  Gh s.er ((s.add hd (.arr e true true τ [])).set h (.box e' m (cs.set j (.osl hd τ)))).er∧LInv ((s.add hd (.arr e true true τ [])).set h (.box e' m (cs.set j (.osl hd τ)))):=by
 obtain⟨e1,hag⟩:=add_er hf (.arr e true true τ ([]:List (S.D τ))) rfl
 obtain⟨f1,f2,f3,f4,f5⟩:=free_spec hf
 have hne:h≠hd:=fun e=>by subst e;rw[stA_of ho] at f1;cases f1
 have hne':Nat.beq hd h=false:=by
  cases hb:Nat.beq hd h with
  | false=>rfl
  | true=>exact absurd (Nat.eq_of_beq_eq_true hb).symm hne
 have ho2:oget (s.add hd (.arr e true true τ [])).st h=some (.box e' m cs):=by
  show oget ((hd,_)::s.st) h=_
  simp only[oget,hne',cond_false];exact ho
 obtain⟨g1,_⟩:=set_er (o':=.box e' m (cs.set j (.osl hd τ))) ho2 rfl
 refine⟨?_,(hl.add (.arr e true true τ []) hf).set ho2 _⟩
 rw[g1,e1]
 have hcs:TV.has.go hd cs=false:=by
  have:=stHas_get (stA_of ho) f3
  exact this
 have e3:(TO.box e' m (cs.set j (.osl hd τ)):TO S).er (s.add hd (.arr e true true τ [])).ln={(TO.box e' m cs:TO S).er s.ln with cells:=((TO.box e' m cs:TO S).er s.ln).cells.set j (.osl hd (S.sz τ) 0 0)}:=by
  have e4:TV.er.go (s.add hd (.arr e true true τ [])).ln (cs.set j (.osl hd τ))=(TV.er.go s.ln cs).set j (.osl hd (S.sz τ) 0 0):=by
   rw[er_go,List.map_set,←er_go,←go_agree hag cs hcs]
   congr 1
   show G.osl _ _ _ ((s.add hd _).ln hd)=_
   rw[show(s.add hd (.arr e true true τ [])).ln hd=_ from lnO_same _ _];rfl
  show Blk.mk _ _ _ _ _ _ _=Blk.mk _ _ _ _ _ _ _
  rw[e4];rfl
 rw[e3]
 exact Gh.adoptC (s:=s.er) h j hd e (S.sz τ) (sget_erS (stA_of ho)) rfl (by show(TV.er.go s.ln cs)[j]?=_;rw[er_go,List.getElem?_map,hj];rfl) (free_fresh hf) rfl
def delO (h:Nat):List (Nat×TO S)→List (Nat×TO S)
 | []=>[]
 | (k,o)::r=>bif Nat.beq k h then delO h r else(k,o)::delO h r
theorem delO_other {h x:Nat}(hx:x≠h):∀{st:List (Nat×TO S)},oget (delO h st) x=oget st x
 | []=>rfl
 | (k,o)::r=>by
  simp only[delO,oget]
  cases hb:Nat.beq k h with
  | true=>
   have:=Nat.eq_of_beq_eq_true hb
   subst this
   have h2:Nat.beq k x=false:=by
    cases h3:Nat.beq k x with
    | false=>rfl
    | true=>exact absurd (Nat.eq_of_beq_eq_true h3).symm hx
   rw[h2]
   exact delO_other hx
  | false=>
   simp only[cond_false,oget]
   cases Nat.beq k x with
   | true=>rfl
   | false=>exact delO_other hx
def TSt.dropH (s:TSt S) (h:Nat):TSt S:={s with st:=delO h s.st,last:=rmH h s.last}
theorem dropH_ok {s:TSt S}{h:Nat}(hl:LInv s) (hf:(s.dropH h).free h=true):Gh s.er (s.dropH h).er∧LInv (s.dropH h)∧Keep s (s.dropH h):=by
 obtain⟨f1,f2,f3,f4,_⟩:=free_spec hf
 have hst:∀x,x≠h→oget (s.dropH h).stA x=oget s.stA x:=by
  intro x hx
  show oget (delO h s.st++s.lst) x=oget (s.st++s.lst) x
  rw[oget_appA,oget_appA,delO_other hx]
 have hag:AgreeLn s.ln (s.dropH h).ln h:=by
  intro x hx
  show lnO s.stA x=lnO (s.dropH h).stA x
  unfold lnO
  rw[hst x hx]
 have hone:∀o:TO S,o.has h=false→BCV s.er.st (s.dropH h).er.st (o.er s.ln) (o.er (s.dropH h).ln):=by
  intro o ho
  rw[TO.er_agree hag o ho]
  exact BCV.refl _ _ _
 refine⟨Gh.typed (fun d v' hv'=>⟨v',hv',?_⟩) (fun x o' ho'=>?_) (go_agree hag s.df f4),?_,⟨rfl,rfl,rfl⟩⟩
 ·rw[er_agree hag v' (frHas_get hv' f2)]
  exact CV.refl _ _ _
 ·have hx:x≠h:=fun e=>by subst e;rw[f1] at ho';cases ho'
  exact⟨o',by rw[←hst x hx];exact ho',hone o' (stHas_get ho' f3)⟩
 ·intro d hh x hm
  obtain⟨h1,h2⟩:=rmH_mem hm
  obtain⟨i,ety,m,f',τ',l',a,e1,e2,e3⟩:=hl d hh x h1
  exact⟨i,ety,m,f',τ',l',a,e1,(hst hh h2).trans e2,e3⟩
def freeO (s:TSt S) (h:Nat):TSt S:=match s.free h with
 | true=>s
 | false=>match (s.dropH h).free h with
  | true=>s.dropH h
  | false=>s
theorem freeO_ok {s:TSt S}(h:Nat) (hl:LInv s):Gh s.er (freeO s h).er∧LInv (freeO s h)∧Keep s (freeO s h):=by
 unfold freeO
 split
 ·exact⟨Gh.refl _,hl,Keep.refl s⟩
 ·split
  ·rename_i hf
   exact dropH_ok hl hf
  ·exact⟨Gh.refl _,hl,Keep.refl s⟩
theorem Rel.shrink {N:Nat}{cx:Cx}{s:St}{μ:Mu}{a:Act}{w:World}(hr:Rel N cx μ s a w){h d n c:Nat}{k:Blk}(hk:sget s.st h=some k) (hp:k.pure=true) (hlp:k.lp=none) (hd:get s.fr d=some (.osl h k.sz 0 n)):
  Rel N cx μ {fr:=(d,.osl h k.sz 0 n)::killFr h s.fr,st:=(h,{k with cells:=k.cells.take c})::killSt h s.st,df:=s.df} a w:=by
 have key:∀x k1,sget ((h,{k with cells:=k.cells.take c})::killSt h s.st) x=some k1→∃k0,sget s.st x=some k0:=by
  intro x k1 h1
  by_cases e:x=h
  ·subst e;exact⟨k,hk⟩
  ·rw[sget_cons_other _ _ e] at h1
   obtain⟨k0,h2,_⟩:=sget_killSt h1
   exact⟨k0,h2⟩
 have hO:∀b,¬cx.O s.st μ b→¬cx.O ((h,{k with cells:=k.cells.take c})::killSt h s.st) μ b:=by
  rintro b hn (ho | ⟨x,k1,c1,m,h1,h2,hi⟩)
  ·exact hn (.inl ho)
  ·obtain⟨k0,h3⟩:=key x k1 h1
   exact hn (.inr ⟨x,k0,c1,m,h3,h2,hi⟩)
 refine {st:={blk:=?_,injF:=?_,outF:=?_,pin:=?_,xlt:=hr.st.xlt,hb:=hr.st.hb,os:=hr.st.os,tape:=hr.st.tape,output:=hr.st.output,gl:=hr.st.gl,keep:=hr.st.keep},nd:=hr.nd.mono (Kept.refl _ _) (fun b _=>hO b),sz:=hr.sz,fr:=?_}
 ·intro x k1 h1
  by_cases e:x=h
  ·subst e
   rw[sget_cons_same] at h1
   cases h1
   have h3:=hr.st.blk x k hk
   cases hm:μ x with
   | none=>rw[hm] at h3;exact .nil (by simp[h3.1]) hlp
   | some bm=>
    obtain⟨b,m⟩:=bm
    rw[hm] at h3
    obtain⟨cs,q1,q2,q3,q4,q5,q6⟩:=h3.cells hlp
    refine .mk hlp (h3.nokid hlp) ⟨cs,q1,q2,by simp only[List.length_take];omega,q4,q5,fun j g hg=>?_⟩
    have hg':k.cells[j]?=some g:=by
     have hg:(k.cells.take c)[j]?=some g:=hg
     rw[List.getElem?_take] at hg
     split at hg
     ·exact hg
     ·cases hg
    obtain⟨v,hv,hrv⟩:=q6 j g hg'
    refine⟨v,hv,?_⟩
    have:=hrv.mono (O':=cx.O ((x,{k with cells:=k.cells.take c})::killSt x s.st) μ) (Kept.refl _ _) (fun b _=>hO b)
    unfold RepC at this⊢
    exact this
  ·rw[sget_cons_other _ _ e] at h1
   obtain⟨k0,h2,rfl⟩:=sget_killSt h1
   exact((hr.st.blk x k0 h2).mono (fun _ _ _ _ _=>rfl) (Kept.refl _ _) (fun b _=>hO b)).kill h fun _ _=>rfl
 ·intro x x' k1 k2 y b m b2 m2 h1 h2
  obtain⟨k0,h5⟩:=key x k1 h1
  obtain⟨k0',h5'⟩:=key x' k2 h2
  exact hr.st.injF x x' k0 k0' y b m b2 m2 h5 h5'
 ·intro x k1 b m y h1 h2 hi
  by_cases e:x=h
  ·subst e
   rw[sget_cons_same] at h1
   cases h1
   exact hr.st.outF x k b m y hk h2 hi
  ·rw[sget_cons_other _ _ e] at h1
   obtain⟨k0,h5,rfl⟩:=sget_killSt h1
   obtain⟨a1,a2,a3,a4⟩:=hr.st.outF x k0 b m y h5 h2 hi
   exact⟨a1,a2,a3,fun hm=>a4 (by cases hp:k0.pure <;> simp only[hp] at hm <;> exact hm)⟩
 ·intro x k1 h1 h2
  obtain⟨k0,h5⟩:=key x k1 h1
  exact hr.st.pin x k0 h5 h2
 ·intro t g hg
  rw[get_cons] at hg
  cases hb:Nat.beq d t with
  | true=>
   rw[hb] at hg
   cases hg
   have:=Nat.eq_of_beq_eq_true hb
   subst this
   obtain⟨v,hv,hrv⟩:=hr.fr d _ hd
   exact⟨v,hv,hrv.mono (Kept.refl _ _) (fun b _=>hO b) (Nat.le_refl _)⟩
  | false=>
   rw[hb] at hg
   obtain⟨g0,h1,rfl⟩:=get_killFr hg
   obtain⟨v,hv,hrv⟩:=hr.fr t g0 h1
   exact⟨v,hv,killG_spec (hrv.mono (Kept.refl _ _) (fun b _=>hO b) (Nat.le_refl _)) fun k hk=>rfl⟩
def truncC (s:TSt S) (x:Operand){A:Type}(k:TSt S→Option A):Option A:=
 match x with
 | .tmp t=>match tget s.frA t with
  | some (.sub h τ 0 n)=>match oget s.st h with
   | some (.arr e m f τ' l)=>match decEq τ' τ with
    | isTrue _=>match !(frHas h s.lo)&&(!(stHas h s.lst)&&!(TV.has.go h s.df)) with
     | true=>(chk (n≤l.length)).bind fun _=>k ((s.renew h (.arr e m f τ' (l.take n))).put t (.osl h τ'))
     | false=>none
    | isFalse _=>none
   | _=>none
  | _=>k s
 | _=>k s
theorem truncC_ok {s:TSt S}{x:Operand}{A:Type}{k:TSt S→Option A}{r:A}(hl:LInv s) (h:truncC s x k=some r):∃t,Gh s.er t.er∧LInv t∧Keep s t∧k t=some r:=by
 unfold truncC at h
 split at h
 ·rename_i t
  split at h
  ·rename_i hh τ n hx
   split at h
   ·rename_i e m f τ' l ho
    split at h
    ·rename_i e1 _
     subst e1
     split at h
     ·rename_i hc
      simp only[Bool.and_eq_true,Bool.not_eq_true'] at hc
      obtain⟨hlo,hls,hdf⟩:=hc
      obtain⟨_,hck,hk⟩:=bind_some h
      have hn:n≤l.length:=chk_spec hck
      refine⟨_,?_,(hl.renew hh (.arr e m f τ' (l.take n)) hlo hls).put t (.osl hh τ'),⟨rfl,rfl,rfl⟩,hk⟩
      obtain⟨e1,_,e3⟩:=renew_er (.arr e m f τ' (l.take n)) rfl hdf hlo hls
      rw[put_er,e1]
      have e4:(TV.osl hh τ':TV S).er (s.renew hh (.arr e m f τ' (l.take n))).ln=.osl hh (S.sz τ') 0 n:=by
       show G.osl _ _ _ ((s.renew hh _).ln hh)=_
       rw[e3]
       show G.osl _ _ _ (l.take n).length=_
       rw[List.length_take,Nat.min_eq_left hn]
      rw[e4]
      have e5:(TO.arr e m f τ' (l.take n):TO S).er s.ln={(TO.arr e m f τ' l:TO S).er s.ln with cells:=((TO.arr e m f τ' l:TO S).er s.ln).cells.take (n*S.sz τ')}:=by
       show Blk.mk _ _ _ _ _ _ _=Blk.mk _ _ _ _ _ _ _
       have:List.flatMap (encT S τ') (l.take n)=(List.flatMap (encT S τ') l).take (n*S.sz τ'):=flatMap_take (fun a=>encT_len S τ' a) l n
       rw[this];rfl
      rw[e5]
      have e6:AM.get (erF s.ln s.frA) t=some (G.osl hh (S.sz τ') 0 n):=by
       rw[get_erF hx]
       show some (G.osl _ _ (0*S.sz τ') _)=_
       rw[Nat.zero_mul]
      intro N cx μ a w hr
      exact⟨μ,Rel.shrink hr (sget_erS (stA_of ho)) rfl rfl e6,Gh.same fun x k1 b m' h1 h2=>by
       by_cases e:x=hh
       ·subst e;exact⟨_,sget_erS (stA_of ho),h2⟩
       ·have h1:sget ((hh,_)::killSt hh s.er.st) x=some k1:=h1
        rw[sget_cons_other _ _ e] at h1
        obtain⟨k0,h3,_⟩:=sget_killSt h1
        exact⟨k0,h3,h2⟩⟩
     ·cases h
    ·cases h
   ·cases h
  ·exact⟨s,Gh.refl _,hl,Keep.refl s,h⟩
 ·exact⟨s,Gh.refl _,hl,Keep.refl s,h⟩
end
end Go.DN
/-
 DN,part Kc:copy.
-/
namespace Go.DN
open Go.AM
section
variable {S:Sig}
def copyC (P:Program) (ok:Nat→Bool) (s:TSt S) (d:Nat) (c:Call){A:Type}(k:TSt S→Option A):Option A:=
 none
section
variable {P:Program}{W:List Nat}{s:TSt S}{ty:TypeId}{pos:String}{after:Array Edge}{guard:Option (Nat×Bool)}{A:Type}{k:TSt S→Option A}{r:A}
theorem sset_self {st:List (Nat×Blk)}{h:Nat}{b:Blk}(hb:sget st h=some b):sset st h b=st:=by
 induction st with
 | nil=>cases hb
 | cons x r ih=>
  obtain⟨y,g⟩:=x
  simp only[sget] at hb
  simp only[sset]
  cases hy:Nat.beq y h with
  | true=>rw[hy] at hb;cases hb;rfl
  | false=>rw[hy] at hb;rw[cond_false,ih hb]
theorem copyC_ok {ok:Nat→Bool}(hokW:∀h,ok h=true→W.contains h=true){d:Nat}{args:Array Operand}{ts:Array TypeId}(hl:LInv s) (h:copyC P ok s d ⟨.builtin .copy,args,ts⟩ k=some r):
  EfOk P W s ⟨some d,.call ⟨.builtin .copy,args,ts⟩,ty,pos,after,guard⟩ k r:=by
 unfold copyC at h
 cases h
end
end
end Go.DN
/-
 DN,part Kf:append within an object,clear.
-/
namespace Go.AM
end Go.AM
namespace Go.DN
open Go.AM
section
variable {S:Sig}
def isApIn (s:TSt S):List Operand→Bool
 | [x,y]=>match tev s x with
  | some (.sub h _ _ _)=>match tev s y with
   | some (.sub h2 _ _ _)=>Nat.beq h2 h
   | _=>false
  | _=>false
 | _=>false
def appInC (P:Program) (ok:Nat→Bool) (s:TSt S) (d:Nat) (c:Call){A:Type}(k:TSt S→Option A):Option A:=
 none
def clearC (P:Program) (ok:Nat→Bool) (s:TSt S) (c:Call){A:Type}(k:TSt S→Option A):Option A:=
 none
section
variable {P:Program}{W:List Nat}{s:TSt S}{ty:TypeId}{pos:String}{after:Array Edge}{guard:Option (Nat×Bool)}{A:Type}{k:TSt S→Option A}{r:A}
theorem appInC_ok {ok:Nat→Bool}(hokW:∀h,ok h=true→W.contains h=true){d:Nat}{args:Array Operand}{ts:Array TypeId}(hl:LInv s) (h:appInC P ok s d ⟨.builtin .append,args,ts⟩ k=some r):
  EfOk P W s ⟨some d,.call ⟨.builtin .append,args,ts⟩,ty,pos,after,guard⟩ k r:=by
 unfold appInC at h
 cases h
theorem clearC_ok {ok:Nat→Bool}(hokW:∀h,ok h=true→W.contains h=true){args:Array Operand}{ts:Array TypeId}(hl:LInv s) (h:clearC P ok s ⟨.builtin .clear,args,ts⟩ k=some r):
  EfOk P W s ⟨none,.call ⟨.builtin .clear,args,ts⟩,ty,pos,after,guard⟩ k r:=by
 unfold clearC at h
 cases h
end
end
end Go.DN
/-
 DN,part Kg:slices of structs of slices:made;one of the slices is taken out,and put in.
-/
namespace Go.DN
open Go.AM
theorem flat_get {α β:Type}(f:α→List β){n:Nat}(hn:∀a,(f a).length=n){j:Nat}(hj:j<n):∀(l:List α) (i:Nat),(l.flatMap f)[i*n+j]?=(l[i]?).bind fun a=>(f a)[j]?
 | [],i=>by simp
 | a::l,0=>by
  rw[List.flatMap_cons,Nat.zero_mul,Nat.zero_add,List.getElem?_append_left (by rw[hn];exact hj)]
  rfl
 | a::l,i+1=>by
  rw[List.flatMap_cons,List.getElem?_append_right (by rw[hn,Nat.succ_mul];omega),hn,show(i+1)*n+j-n=i*n+j by rw[Nat.succ_mul];omega,flat_get f hn hj l i]
  rfl
section
variable {S:Sig}
variable {P:Program}{W:List Nat}{ok:Nat→Bool}{s:TSt S}{ty:TypeId}{pos:String}{after:Array Edge}{guard:Option (Nat×Bool)}{A:Type}{k:TSt S→Option A}{r:A}
def isRowMk (S:Sig) (P:Program) (t:TypeId):Bool:=match P.underlying t with
 | some (.slice e)=>(S.rowK e).isSome
 | _=>false
def mkRowsC (P:Program) (s:TSt S) (d:Nat) (t:TypeId) (x y:Operand){A:Type}(k:TSt S→Option A):Option A:=
 none
theorem mkRowsC_ok {d:Nat}{t:TypeId}{x y:Operand}(hl:LInv s) (h:mkRowsC P s d t x y k=some r):EfOk P W s ⟨some d,.makeSlice t x y,ty,pos,after,guard⟩ k r:=by
 unfold mkRowsC at h
 cases h
def isRowLd (s:TSt S) (op:Op):Bool:=match op with
 | .load _ x=>match tev s x with
  | some (.elt h _ _ _)=>isRows s h
  | _=>false
 | _=>false
def rowOutC (P:Program) (ok:Nat→Bool) (s:TSt S) (d:Nat) (t:TypeId) (x:Operand){A:Type}(k:TSt S→Option A):Option A:=
 none
theorem rowOutC_ok (hokW:∀h,ok h=true→W.contains h=true){d:Nat}{t:TypeId}{x:Operand}(hl:LInv s) (h:rowOutC P ok s d t x k=some r):EfOk P W s ⟨some d,.load t x,ty,pos,after,guard⟩ k r:=by
 unfold rowOutC at h
 cases h
def rowInC (P:Program) (ok:Nat→Bool) (s:TSt S) (t:TypeId) (x y:Operand){A:Type}(k:TSt S→Option A):Option A:=
 none
theorem rowInC_ok (hokW:∀h,ok h=true→W.contains h=true){t:TypeId}{x y:Operand}(hl:LInv s) (h:rowInC P ok s t x y k=some r):EfOk P W s ⟨none,.store t x y,ty,pos,after,guard⟩ k r:=by
 unfold rowInC at h
 cases h
end
end Go.DN
/-
 DN,part Kh:maps are made,get an entry more;a slice of one of the structs grows.
-/
namespace Go.DN
open Go.AM
section
variable {S:Sig}
def mkMapC (P:Program) (s:TSt S) (d:Nat) (t:TypeId) (n:Option Operand){A:Type}(k:TSt S→Option A):Option A:=
 none
def mapPutC (P:Program) (ok:Nat→Bool) (s:TSt S) (t:TypeId) (x y z:Operand){A:Type}(k:TSt S→Option A):Option A:=
 none
def isMapApp (s:TSt S):List Operand→Bool
 | [x,_]=>match tev s x with
  | some (.ks h _ _ _)=>match oget s.st h with
   | some (.deep _ _ _ (.map _ _ _) .map _)=>true
   | _=>false
  | _=>false
 | _=>false
def mapAppC (P:Program) (ok:Nat→Bool) (s:TSt S) (d:Nat) (c:Call){A:Type}(k:TSt S→Option A):Option A:=
 none
def isMapSt (s:TSt S) (x:Operand):Bool:=match tev s x with
 | some (.kp h _ _ _)=>match oget s.st h with
  | some (.deep _ _ _ (.map _ _ _) .map _)=>true
  | _=>false
 | _=>false
def mapStC (P:Program) (ok:Nat→Bool) (s:TSt S) (t:TypeId) (x y:Operand){A:Type}(k:TSt S→Option A):Option A:=
 none
def allKs:List (TV S)→Bool
 | []=>true
 | .ks _ τ _ _::r=>(match τ with | .st _=>false | _=>true)&&allKs r
 | _::_=>false
def isKsB (s:TSt S) (parts:List (Nat×Operand)):Bool:=
 match parts with
 | []=>false
 | _=>match partsT s parts 0 with
  | some vs=>allKs vs
  | none=>false
def bslKs (P:Program) (s:TSt S) (d:Nat) (t:TypeId) (n:Nat) (parts:Array (Nat×Operand)){A:Type}(k:TSt S→Option A):Option A:=
 none
section
variable {P:Program}{W:List Nat}{s:TSt S}{ty:TypeId}{pos:String}{after:Array Edge}{guard:Option (Nat×Bool)}{A:Type}{k:TSt S→Option A}{r:A}
theorem mkMapC_ok {d:Nat}{t:TypeId}{n:Option Operand}(hl:LInv s) (h:mkMapC P s d t n k=some r):EfOk P W s ⟨some d,.makeMap t n,ty,pos,after,guard⟩ k r:=by
 unfold mkMapC at h
 cases h
theorem mapPutC_ok {ok:Nat→Bool}(hokW:∀h,ok h=true→W.contains h=true){t:TypeId}{x y z:Operand}(hl:LInv s) (h:mapPutC P ok s t x y z k=some r):EfOk P W s ⟨none,.mapUpdate t x y z,ty,pos,after,guard⟩ k r:=by
 unfold mapPutC at h
 cases h
theorem mapAppC_ok {ok:Nat→Bool}(hokW:∀h,ok h=true→W.contains h=true){d:Nat}{args:Array Operand}{ts:Array TypeId}(hl:LInv s) (h:mapAppC P ok s d ⟨.builtin .append,args,ts⟩ k=some r):
  EfOk P W s ⟨some d,.call ⟨.builtin .append,args,ts⟩,ty,pos,after,guard⟩ k r:=by
 unfold mapAppC at h
 cases h
theorem mapStC_ok {ok:Nat→Bool}(hokW:∀h,ok h=true→W.contains h=true){t:TypeId}{x y:Operand}(hl:LInv s) (h:mapStC P ok s t x y k=some r):EfOk P W s ⟨none,.store t x y,ty,pos,after,guard⟩ k r:=by
 unfold mapStC at h
 cases h
theorem bslKs_ok {d:Nat}{t:TypeId}{n:Nat}{parts:Array (Nat×Operand)}(hl:LInv s) (h:bslKs P s d t n parts k=some r):EfOk P W s ⟨some d,.buildSlice t n parts,ty,pos,after,guard⟩ k r:=by
 unfold bslKs at h
 cases h
end
end
end Go.DN
/-
 DN,part L:regions.
-/
namespace Go.DN
open Go.AM
section
variable {S:Sig}
def isY (s:TSt S) (c:Call):Bool:=
 match c.callee with
 | .value x=>match tev s x with
  | some (.yld _)=>true
  | _=>false
 | _=>false
def yOp (s:TSt S):Op→Option Call
 | .call c=>match isY s c with
  | true=>some c
  | false=>none
 | _=>none
def famPart (s:TSt S):List (Nat×Operand)→Bool
 | [(_,x)]=>match tev s x with
  | some (.osl h τ)=>match τ.scal with
   | true=>match oget s.st h with
    | some (.arr _ m _ _ _)=>m
    | _=>false
   | false=>false
  | _=>false
 | _=>false
def deepO (s:TSt S):List Operand→List Nat
 | []=>[]
 | x::r=>match tev s x with
  | some (.osl h _)=>match isDeep s h with
   | true=>h::deepO s r
   | false=>deepO s r
  | _=>deepO s r
def subCell (s:TSt S) (x:Operand):Bool:=match tev s x with
 | some (.loc h off)=>match oget s.st h with
  | some (.box _ _ cs)=>match cs[off]? with
   | some (.sub _ _ _ _)=>true
   | _=>false
  | _=>false
 | _=>false
noncomputable def efC (P:Program) (ok:Nat→Bool){A:Type}(cl:TSt S→Option Nat→Call→(TSt S→Option A)→Option A) (s:TSt S) (dst:Option Nat) (op:Op) (k:TSt S→Option A):Option A:=
 match dst with
 | some d=>match op with
  | .box t x=>boxC s d t x k
  | .alloc t=>allocC P s d t k
  | .makeSlice t x y=>match isRowMk S P t with
   | true=>mkRowsC P s d t x y k
   | false=>makeC P s d t x y k
  | .load t x=>rowOutC P ok s d t x k
  | .makeMap t n=>mkMapC P s d t n k
  | .buildSlice t n parts=>match S.fam&&famPart s parts.toList with
   | true=>famBslC P ok s d t n parts k
   | false=>match isKsB s parts.toList with
    | true=>bslKs P s d t n parts k
    | false=>match fzAll (oslsO s (parts.toList.map (·.2))) s with
    | some s'=>bslC P s' d t n parts k
    | none=>none
  | .binOp op t x y _=>nilC P s d op t x y k
  | .call c=>match c.callee with
   | .builtin .append=>match c.args.toList with
    | x::r=>match isApIn s (x::r) with
     | true=>appInC P ok s d c k
     | false=>match isMapApp s (x::r) with
      | true=>mapAppC P ok s d c k
      | false=>match deepO s [x] with
      | []=>match fzAll (deepO s r) s with
       | some s=>truncC s x fun s'=>appC P ok s' d c k
       | none=>none
      | _=>famAppC P ok s d c k
    | []=>none
   | .builtin .copy=>copyC P ok s d c k
   | .value _=>match isY s c with
    | true=>none
    | false=>cl s (some d) c k
   | _=>none
  | _=>none
 | none=>match op with
  | .store t x y=>match tev s x with
   | some (.elt h _ _ _)=>match isDeep s h with
    | true=>match isRows s h with
     | true=>rowInC P ok s t x y k
     | false=>famStC P ok s t x y k
    | false=>match fzAll (oslsO s [y]) s with
     | some s'=>storeC P ok s' t x y k
     | none=>none
   | _=>match isMapSt s x with
    | true=>mapStC P ok s t x y k
    | false=>match subCell s x with
     | true=>storeC P ok s t x y k
     | false=>truncC s y fun s'=>storeC P ok s' t x y k
  | .mapUpdate t x y z=>mapPutC P ok s t x y z k
  | .call c=>match c.callee with
   | .builtin .clear=>clearC P ok s c k
   | .value _=>match isY s c with
    | true=>none
    | false=>cl s none c k
   | _=>none
  | _=>none
def isEf:Op→Bool
 | .box _ _=>true
 | .alloc _=>true
 | .makeSlice _ _ _=>true
 | .buildSlice _ _ _=>true
 | .store _ _ _=>true
 | .makeMap _ _=>true
 | .mapUpdate _ _ _ _=>true
 | .binOp op _ _ y _=>match op with
  | .eql=>match y with
   | .const (.slice none 0 0)=>true
   | _=>false
  | .neq=>match y with
   | .const (.slice none 0 0)=>true
   | _=>false
  | _=>false
 | .call c=>match c.callee with
  | .builtin .append=>true
  | .builtin .copy=>true
  | .builtin .clear=>true
  | .value _=>true
  | _=>false
 | _=>false
def isLd:Op→Bool
 | .load _ _=>true
 | .lookup _ _ _ _=>true
 | _=>false
def isBS (s:TSt S):Op→Bool
 | .convert _ _ x=>match tev s x with
  | some (.osl _ (.int .u8))=>true
  | _=>false
 | _=>false
def isLdS (s:TSt S) (op:Op):Bool:=isLd op||isBS s op
def dstN (N:Nat):Option Nat→Bool
 | some d=>Nat.blt d N
 | none=>true
def isEfS (s:TSt S) (op:Op):Bool:=isEf op||isRowLd s op
noncomputable def opC (P:Program) (N:Nat) (ok:Nat→Bool){A:Type}(cl:TSt S→Option Nat→Call→(TSt S→Option A)→Option A) (s:TSt S) (o:Oper) (k:TSt S→Option A):Option A:=
 match dstN N o.dst with
 | true=>match isEfS s o.op with
  | true=>efC P ok cl s o.dst o.op k
  | false=>match o.dst with
   | some d=>match isLdS s o.op with
    | true=>ylC P [] s o.op fun v=>k (s.put d v)
    | false=>pyC P s o.op fun v x=>k (s.putL d v x)
   | none=>none
 | false=>none
def skipT (N:Nat) (s:TSt S) (o:Oper):Option (TSt S):=
 match o.dst with
 | some d=>match Nat.blt d N with
  | true=>some (s.put d (.tup []))
  | false=>none
 | none=>some {s with fr:=s.fr}
noncomputable def regL (P:Program) (N:Nat) (ok:Nat→Bool) (ops:List Oper){A:Type}(cl:TSt S→Option Nat→Call→(TSt S→Option A)→Option A):List Oper→TSt S→(TSt S→Option A)→Option A
 | [],s,k=>k s
 | o::r,s,k=>match o.guard with
  | none=>match yOp s o.op with
   | some c=>cl s o.dst c fun s'=>regL P N ok ops cl r s' k
   | none=>opC P N ok cl s o fun s'=>regL P N ok ops cl r s' k
  | some (j,want)=>match ops[j]? with
   | some oj=>match oj.dst with
    | some d=>match tget s.frA d with
     | some (.dat _ .bool b)=>match want with
      | true=>cond b (opC P N ok cl (s.put d (.dat true .bool true)) o fun s'=>regL P N ok ops cl r s' k)
       (match skipT N (s.put d (.dat true .bool false)) o with | some s'=>regL P N ok ops cl r s' k | none=>none)
      | false=>cond b (match skipT N (s.put d (.dat true .bool true)) o with | some s'=>regL P N ok ops cl r s' k | none=>none)
       (opC P N ok cl (s.put d (.dat true .bool false)) o fun s'=>regL P N ok ops cl r s' k)
     | some (.tup [])=>match skipT N s o with
      | some s'=>regL P N ok ops cl r s' k
      | none=>none
     | _=>none
    | none=>none
   | none=>none
section
variable {P:Program}{N:Nat}{cx:Cx}{Q:Exit→St→Prop}{W:List Nat}{ok:Nat→Bool}{A:Type}{cl:TSt S→Option Nat→Call→(TSt S→Option A)→Option A}{r:A}
def EfOkP (P:Program) (W:List Nat) (s:TSt S) (o:Oper){A:Type}(k:TSt S→Option A) (kp:List PanicEntry→TSt S→Option A) (r:A):Prop:=
 ∃(T:St→Prop) (Tp:List PanicEntry→St→Prop),EffectP P W s.er o T Tp∧(∀s',T s'→∃t:TSt S,Gh s' t.er∧LInv t∧Keep s t∧k t=some r)∧∀ch s',Tp ch s'→∃t:TSt S,Gh s' t.er∧LInv t∧Keep s t∧kp ch t=some r
theorem EfOk.p {s:TSt S}{o:Oper}{k:TSt S→Option A}{kp:List PanicEntry→TSt S→Option A}(h:EfOk P W s o k r):EfOkP P W s o k kp r:=
 let ⟨T,h1,h2⟩:=h
 ⟨T,_,h1.p,h2,fun _ _ h=>h.elim⟩
theorem EffectP.tell {s:St}{o:Oper}{T:St→Prop}{Tp Tp':List PanicEntry→St→Prop}(h:EffectP P W s o T Tp) (ht:∀ch s',Tp ch s'→∃t,Gh s' t∧Tp' ch t):EffectP P W s o T Tp':=
 ⟨h.1,fun N cx μ a w hr hN K Q hK hp=>h.2 N cx μ a w hr hN K Q hK fun ch μ' s' w' hr' hT=>by
  obtain⟨t,h1,h2⟩:=ht ch s' hT
  obtain⟨μ2,h3,_⟩:=h1 N cx μ' a w' hr'
  exact hp ch μ2 t w' h3 h2⟩
def ClOk (P:Program) (N:Nat) (W:List Nat){A:Type}(cl:TSt S→Option Nat→Call→(TSt S→Option A)→Option A) (kp:List PanicEntry→TSt S→Option A) (r:A):Prop:=
 ∀(s:TSt S) (dst:Option Nat) (c:Call) (k:TSt S→Option A),LInv s→isY s c=false→cl s dst c k=some r→∀(ty:TypeId) (pos:String) (after:Array Edge) (guard:Option (Nat×Bool)),EfOkP P W s ⟨dst,.call c,ty,pos,after,guard⟩ k kp r
def ClOk0 (P:Program) (N:Nat) (W:List Nat){A:Type}(cl:TSt S→Option Nat→Call→(TSt S→Option A)→Option A) (r:A):Prop:=
 ∀(s:TSt S) (dst:Option Nat) (c:Call) (k:TSt S→Option A),LInv s→isY s c=false→cl s dst c k=some r→∀(ty:TypeId) (pos:String) (after:Array Edge) (guard:Option (Nat×Bool)),EfOk P W s ⟨dst,.call c,ty,pos,after,guard⟩ k r
theorem ClOk0.p {kp:List PanicEntry→TSt S→Option A}(h:ClOk0 P N W cl r):ClOk P N W cl kp r:=fun s dst c k a b d ty pos after guard=>(h s dst c k a b d ty pos after guard).p
def YlOk (P:Program) (N:Nat){A:Type}(cl:TSt S→Option Nat→Call→(TSt S→Option A)→Option A) (r:A):Prop:=
 ∀(cx:Cx) (s:TSt S) (dst:Option Nat) (c:Call) (k:TSt S→Option A),LInv s→isY s c=true→cl s dst c k=some r→∀(ty:TypeId) (pos:String) (after:Array Edge) (ops:Array Oper) (rest:List Oper) (Q:Exit→St→Prop),
  (∀t:TSt S,LInv t→Keep s t→k t=some r→GL P N cx ops Q rest t.er)→GL P N cx ops Q (⟨dst,.call c,ty,pos,after,none⟩::rest) s.er
theorem yOp_some {s:TSt S}{op:Op}{c:Call}(h:yOp s op=some c):op=.call c∧isY s c=true:=by
 unfold yOp at h
 split at h
 ·split at h
  ·rename_i hy;cases h;exact⟨rfl,hy⟩
  ·cases h
 ·cases h
theorem efC_ok (hokW:∀h,ok h=true→W.contains h=true){kp:List PanicEntry→TSt S→Option A}(hcl:ClOk P N W cl kp r){s:TSt S}{o:Oper}{k:TSt S→Option A}(hl:LInv s) (h:efC P ok cl s o.dst o.op k=some r):EfOkP P W s o k kp r:=by
 obtain⟨dst,op,ty,pos,after,guard⟩:=o
 unfold efC at h
 dsimp only at h
 split at h
 ·split at h
  ·exact(boxC_ok hl h).p
  ·exact(allocC_ok hl h).p
  ·split at h
   ·exact(mkRowsC_ok hl h).p
   ·exact(makeC_ok hl h).p
  ·exact(rowOutC_ok hokW hl h).p
  ·exact(mkMapC_ok hl h).p
  ·split at h
   ·exact(famBslC_ok hokW hl h).p
   ·split at h
    ·exact(bslKs_ok hl h).p
    ·split at h
     ·rename_i s' hz
      obtain⟨a1,a2,a3⟩:=fzAll_ok hl hz
      exact(EfOk.gh a1 a3 (bslC_ok a2 h)).p
     ·cases h
  ·exact(nilC_ok hl h).p
  ·rename_i c
   obtain⟨cal,args,ts⟩:=c
   dsimp only at h
   split at h
   ·split at h
    ·split at h
     ·exact(appInC_ok hokW hl h).p
     ·split at h
      ·exact(mapAppC_ok hokW hl h).p
      ·split at h
       ·split at h
        ·rename_i s1 hz
         obtain⟨b1,b2,b3⟩:=fzAll_ok hl hz
         obtain⟨t,a1,a2,a3,a4⟩:=truncC_ok b2 h
         exact(EfOk.gh b1 b3 (EfOk.gh a1 a3 (appC_ok hokW a2 a4))).p
        ·cases h
       ·exact(famAppC_ok hokW hl h).p
    ·cases h
   ·exact(copyC_ok hokW hl h).p
   ·split at h
    ·cases h
    ·rename_i hy;exact hcl _ _ _ _ hl hy h _ _ _ _
   ·cases h
  ·cases h
 ·split at h
  ·split at h
   ·split at h
    ·split at h
     ·exact(rowInC_ok hokW hl h).p
     ·exact(famStC_ok hokW hl h).p
    ·split at h
     ·rename_i s' hz
      obtain⟨a1,a2,a3⟩:=fzAll_ok hl hz
      exact(EfOk.gh a1 a3 (storeC_ok hokW a2 h)).p
     ·cases h
   ·split at h
    ·exact(mapStC_ok hokW hl h).p
    ·split at h
     ·exact(storeC_ok hokW hl h).p
     ·obtain⟨t,a1,a2,a3,a4⟩:=truncC_ok hl h
      exact(EfOk.gh a1 a3 (storeC_ok hokW a2 a4)).p
  ·exact(mapPutC_ok hokW hl h).p
  ·rename_i c
   obtain⟨cal,args,ts⟩:=c
   dsimp only at h
   split at h
   ·exact(clearC_ok hokW hl h).p
   ·split at h
    ·cases h
    ·rename_i hy;exact hcl _ _ _ _ hl hy h _ _ _ _
   ·cases h
  ·cases h
theorem opC_GL (hokW:∀h,ok h=true→W.contains h=true){kp:List PanicEntry→TSt S→Option A}(hcl:ClOk P N W cl kp r){s:TSt S}{ops:Array Oper}{rest:List Oper}{o:Oper}{k:TSt S→Option A}(hl:LInv s) (hw:wants ops s.er o.guard=some true)
  (h:opC P N ok cl s o k=some r) (hk:∀t:TSt S,LInv t→Keep s t→k t=some r→GL P N cx ops Q rest t.er)
  (hkp:∀ch (t:TSt S),LInv t→Keep s t→kp ch t=some r→∃u,Gh t.er u∧Q (.panic ch) u):GL P N cx ops Q (o::rest) s.er:=by
 unfold opC at h
 split at h
 ·rename_i hd
  split at h
  ·obtain⟨T,Tp,he,hT,hTp⟩:=efC_ok hokW hcl hl h
   refine GL.effectP (Tp:=fun ch u=>Q (.panic ch) u) hw (fun d e=>?_) (EffectP.tell he fun ch s' ht=>?_) (fun s' ht=>?_) fun _ _ h=>h
   ·rw[e] at hd;simpa[dstN,Nat.blt_eq] using hd
   ·obtain⟨t,h1,h2,h3,h4⟩:=hTp ch s' ht
    obtain⟨u,h5,h6⟩:=hkp ch t h2 h3 h4
    exact⟨u,h1.trans h5,h6⟩
   ·obtain⟨t,h1,h2,h3,h4⟩:=hT s' ht
    exact GL.gh h1 (hk t h2 h3 h4)
  ·split at h
   ·rename_i d e
    obtain⟨dst,op,ty,pos,after,guard⟩:=o
    dsimp only at e h hd
    subst e
    have hN:d<N:=by simpa[dstN,Nat.blt_eq] using hd
    split at h
    ·obtain⟨v,h1,h2⟩:=ylC_ok (dst:=some d) (ty:=ty) (pos:=pos) (after:=after) (guard:=guard) hl h
     exact GL.yield hw rfl hN h1 (hk _ (hl.put d v) ⟨rfl,rfl,rfl⟩ h2)
    ·obtain⟨v,x,h1,h2,h3⟩:=pyC_ok (dst:=some d) (ty:=ty) (pos:=pos) (after:=after) (guard:=guard) h
     refine GL.yield hw rfl hN (h1.yield []) ?_
     rw[←putL_er s d v x]
     exact hk _ (putL_ok hl d h2) (putL_keep s d v x) h3
   ·cases h
 ·cases h
theorem skipT_GL {s t:TSt S}{ops:Array Oper}{rest:List Oper}{o:Oper}(hl:LInv s) (hw:wants ops s.er o.guard=some false) (h:skipT N s o=some t) (hk:LInv t→Keep s t→GL P N cx ops Q rest t.er):GL P N cx ops Q (o::rest) s.er:=by
 unfold skipT at h
 obtain⟨dst,op,ty,pos,after,guard⟩:=o
 dsimp only at h
 split at h
 ·split at h
  ·rename_i hN
   cases h
   exact GL.nou hw hN (hk (hl.put _ _) ⟨rfl,rfl,rfl⟩)
  ·cases h
 ·cases h
  refine GL.pass hw ?_
  exact hk hl ⟨rfl,rfl,rfl⟩
theorem wants_lit {ops:List Oper}{s:TSt S}{j d:Nat}{want b:Bool}{oj:Oper}(h1:ops[j]?=some oj) (h2:oj.dst=some d) (h3:tget s.frA d=some (.dat true .bool b)):wants ops.toArray s.er (some (j,want))=some (b==want):=by
 have:get s.er.fr d=some (.val (.bool b)):=by rw[show get s.er.fr d=_ from get_erF h3];exact congrArg some (datG_bool true b)
 simp[wants,h1,h2,this]
theorem wants_tup {ops:List Oper}{s:TSt S}{j d:Nat}{want:Bool}{oj:Oper}(h1:ops[j]?=some oj) (h2:oj.dst=some d) (h3:tget s.frA d=some (.tup [])):wants ops.toArray s.er (some (j,want))=some false:=by
 have:get s.er.fr d=some (.tup []):=by rw[show get s.er.fr d=_ from get_erF h3];rfl
 simp[wants,h1,h2,this]
theorem lit_GL {s:TSt S}{ops:Array Oper}{rest:List Oper}{d:Nat}{f b v:Bool}(h:tget s.frA d=some (.dat f .bool b)) (hb:b=v) (hk:GL P N cx ops Q rest (s.put d (.dat true .bool v)).er):GL P N cx ops Q rest s.er:=by
 refine GL.lit d (b:=b) (v:=v) ?_ hb ?_
 ·rw[show get s.er.fr d=_ from get_erF h];exact congrArg some (datG_bool f b)
 ·rw[put_er] at hk
  have e:(TV.dat true .bool v:TV S).er s.ln=.val (.bool v):=datG_bool true v
  rw[e] at hk
  exact hk
theorem regL_ok (hokW:∀h,ok h=true→W.contains h=true){kp:List PanicEntry→TSt S→Option A}(hcl:ClOk P N W cl kp r) (hyl:YlOk P N cl r){ops:List Oper}:∀{rest:List Oper}{s:TSt S}{k:TSt S→Option A},LInv s→regL P N ok ops cl rest s k=some r→
  (∀t:TSt S,LInv t→Keep s t→k t=some r→Q .normal t.er)→(∀ch (t:TSt S),LInv t→Keep s t→kp ch t=some r→∃u,Gh t.er u∧Q (.panic ch) u)→GL P N cx ops.toArray Q rest s.er
 | [],s,k,hl,h,hk,_=>GL.nil (hk s hl (Keep.refl s) h)
 | o::rest,s,k,hl,h,hk,hkp=>by
  simp only[regL] at h
  split at h
  ·rename_i hg
   split at h
   ·rename_i c hc
    obtain⟨e1,e2⟩:=yOp_some hc
    obtain⟨dst,op,ty,pos,after,guard⟩:=o
    dsimp only at hg e1 h
    subst hg;subst e1
    exact hyl cx s dst c _ hl e2 h ty pos after _ _ _ fun t hl' hkp' h'=>regL_ok hokW hcl hyl hl' h' (fun t2 a1 a2 a3=>hk t2 a1 (Keep.trans ⟨hkp'.lo,hkp'.lst,hkp'.df⟩ a2) a3) fun ch t2 a1 a2 a3=>hkp ch t2 a1 (Keep.trans ⟨hkp'.lo,hkp'.lst,hkp'.df⟩ a2) a3
   exact opC_GL hokW hcl hl (by rw[hg];rfl) h (fun t hl' hkp' h'=>regL_ok hokW hcl hyl hl' h' (fun t2 a1 a2 a3=>hk t2 a1 (Keep.trans ⟨hkp'.lo,hkp'.lst,hkp'.df⟩ a2) a3) fun ch t2 a1 a2 a3=>hkp ch t2 a1 (Keep.trans ⟨hkp'.lo,hkp'.lst,hkp'.df⟩ a2) a3) hkp
  ·rename_i j want hg
   split at h
   ·rename_i oj hj
    split at h
    ·rename_i d hd
     split at h
     ·rename_i f b hb
      have hlt:=fun v=>LInv.put hl d (.dat true .bool v:TV S)
      have ht:∀v,tget (s.put d (.dat true .bool v)).frA d=some (.dat true .bool v):=fun v=>by simp only[TSt.put,TSt.frA,List.cons_append,tget,Nat.beq_refl,cond_true]
      split at h
      ·cases hbv:b with
       | true=>
        rw[hbv] at h
        refine lit_GL hb hbv (opC_GL hokW hcl (hlt true) ?_ h (fun t hl' hkp' h'=>regL_ok hokW hcl hyl hl' h' (fun t2 a1 a2 a3=>hk t2 a1 (Keep.trans ⟨hkp'.lo,hkp'.lst,hkp'.df⟩ a2) a3) fun ch t2 a1 a2 a3=>hkp ch t2 a1 (Keep.trans ⟨hkp'.lo,hkp'.lst,hkp'.df⟩ a2) a3) fun ch t2 a1 a2 a3=>hkp ch t2 a1 ⟨a2.lo,a2.lst,a2.df⟩ a3)
        rw[hg,wants_lit hj hd (ht true)];rfl
       | false=>
        rw[hbv] at h
        dsimp only[cond_false] at h
        refine lit_GL hb hbv ?_
        split at h
        ·rename_i s' hs
         exact skipT_GL (hlt false) (by rw[hg,wants_lit hj hd (ht false)];rfl) hs fun hl' hkp'=>regL_ok hokW hcl hyl hl' h (fun t2 a1 a2 a3=>hk t2 a1 (Keep.trans ⟨hkp'.lo,hkp'.lst,hkp'.df⟩ a2) a3) fun ch t2 a1 a2 a3=>hkp ch t2 a1 (Keep.trans ⟨hkp'.lo,hkp'.lst,hkp'.df⟩ a2) a3
        ·cases h
      ·cases hbv:b with
       | true=>
        rw[hbv] at h
        dsimp only[cond_true] at h
        refine lit_GL hb hbv ?_
        split at h
        ·rename_i s' hs
         exact skipT_GL (hlt true) (by rw[hg,wants_lit hj hd (ht true)];rfl) hs fun hl' hkp'=>regL_ok hokW hcl hyl hl' h (fun t2 a1 a2 a3=>hk t2 a1 (Keep.trans ⟨hkp'.lo,hkp'.lst,hkp'.df⟩ a2) a3) fun ch t2 a1 a2 a3=>hkp ch t2 a1 (Keep.trans ⟨hkp'.lo,hkp'.lst,hkp'.df⟩ a2) a3
        ·cases h
       | false=>
        rw[hbv] at h
        refine lit_GL hb hbv (opC_GL hokW hcl (hlt false) ?_ h (fun t hl' hkp' h'=>regL_ok hokW hcl hyl hl' h' (fun t2 a1 a2 a3=>hk t2 a1 (Keep.trans ⟨hkp'.lo,hkp'.lst,hkp'.df⟩ a2) a3) fun ch t2 a1 a2 a3=>hkp ch t2 a1 (Keep.trans ⟨hkp'.lo,hkp'.lst,hkp'.df⟩ a2) a3) fun ch t2 a1 a2 a3=>hkp ch t2 a1 ⟨a2.lo,a2.lst,a2.df⟩ a3)
        rw[hg,wants_lit hj hd (ht false)];rfl
     ·rename_i hb
      split at h
      ·rename_i s' hs
       exact skipT_GL hl (by rw[hg,wants_tup hj hd hb]) hs fun hl' hkp'=>regL_ok hokW hcl hyl hl' h (fun t2 a1 a2 a3=>hk t2 a1 (Keep.trans ⟨hkp'.lo,hkp'.lst,hkp'.df⟩ a2) a3) fun ch t2 a1 a2 a3=>hkp ch t2 a1 (Keep.trans ⟨hkp'.lo,hkp'.lst,hkp'.df⟩ a2) a3
      ·cases h
     ·cases h
    ·cases h
   ·cases h
end
end
end Go.DN
/-
 DN,part M:regions that draw their order.
-/
namespace Go.DN
open Go.AM
section
variable {S:Sig}
def passed (s:TSt S):List Operand→Bool
 | []=>false
 | x::r=>match tev s x with
  | some (.tup [])=>true
  | _=>passed s r
def calm (W:List Nat) (s:TSt S) (o:Oper):Bool:=
 match o.op with
 | .load _ x=>match tev s x with
  | some (.ptr _ _ _)=>true
  | some (.loc h _)=>!(W.contains h)
  | some (.elt h _ _ _)=>!(W.contains h)
  | some (.tup [])=>true
  | _=>false
 | .call c=>match isEf (.call c) with
  | true=>passed s c.args.toList
  | false=>true
 | .binOp op t x y t'=>match isEf (.binOp op t x y t') with
  | true=>passed s [x]
  | false=>true
 | .lookup _ _ _ _=>false
 | .convert _ _ x=>match tev s x with
  | some (.osl h (.int .u8))=>!(W.contains h)
  | _=>true
 | op=>!(isEf op)
def off (s:TSt S) (o:Oper):Bool:=
 match o.op with
 | .load _ x=>passed s [x]
 | .call c=>passed s c.args.toList
 | .binOp _ _ x _ _=>passed s [x]
 | _=>false
def pick (f:Oper→Bool) (ops:Array Oper) (listed:Array Bool):List Nat→Option (Nat×Oper)
 | []=>none
 | i::r=>match ops[i]? with
  | some o=>match f o&&Region.free .any ops listed i with
   | true=>some (i,o)
   | false=>pick f ops listed r
  | none=>pick f ops listed r
theorem pick_ok {f:Oper→Bool}{ops:Array Oper}{listed:Array Bool}:∀{l:List Nat}{i:Nat}{o:Oper},pick f ops listed l=some (i,o)→i∈l∧ops[i]?=some o∧f o=true∧Region.free .any ops listed i=true
 | [],_,_,h=>by cases h
 | j::r,i,o,h=>by
  simp only[pick] at h
  split at h
  ·rename_i o' ho
   split at h
   ·rename_i hc
    cases h
    simp only[Bool.and_eq_true] at hc
    exact⟨List.mem_cons_self,ho,hc.1,hc.2⟩
   ·obtain⟨h1,h2⟩:=pick_ok h
    exact⟨List.mem_cons_of_mem _ h1,h2⟩
  ·obtain⟨h1,h2⟩:=pick_ok h
   exact⟨List.mem_cons_of_mem _ h1,h2⟩
def guardC (N:Nat) (ops:Array Oper) (s:TSt S) (o:Oper){A:Type}(run:TSt S→Option A) (skip:TSt S→Option A):Option A:=
 match o.guard with
 | none=>run s
 | some (j,want)=>match ops[j]? with
  | some oj=>match oj.dst with
   | some d=>match tget s.frA d with
    | some (.dat _ .bool b)=>match want with
     | true=>cond b (run (s.put d (.dat true .bool true))) (match skipT N (s.put d (.dat true .bool false)) o with | some s'=>skip s' | none=>none)
     | false=>cond b (match skipT N (s.put d (.dat true .bool true)) o with | some s'=>skip s' | none=>none) (run (s.put d (.dat true .bool false)))
    | some (.tup [])=>match skipT N s o with
     | some s'=>skip s'
     | none=>none
    | _=>none
   | none=>none
  | none=>none
open Classical in
noncomputable def amb {A:Type}(x y:Option A):Option A:=if x=y then x else none
theorem amb_spec {A:Type}{x y:Option A}{r:A}(h:amb x y=some r):x=some r∧y=some r:=by
 unfold amb at h
 split at h
 ·rename_i e
  exact⟨h,e▸h⟩
 ·cases h
theorem amb_self {A:Type}(x:Option A):amb x x=x:=by unfold amb;simp
noncomputable def amb2 {A:Type}(x:Option A):Option A:=amb x x
theorem amb2_self {A:Type}(x:Option A):amb2 x=x:=amb_self x
noncomputable def ambL {A:Type}:List (Option A)→Option A
 | []=>none
 | [x]=>x
 | x::r=>amb x (ambL r)
theorem ambL_spec {A:Type}:∀{l:List (Option A)}{r:A},ambL l=some r→∀x∈l,x=some r
 | [],_,h,x,hx=>by cases hx
 | [y],r,h,x,hx=>by simp at hx;subst hx;exact h
 | y::z::l,r,h,x,hx=>by
  obtain⟨h1,h2⟩:=amb_spec h
  rcases List.mem_cons.1 hx with e | hx
  ·subst e;exact h1
  ·exact ambL_spec h2 x hx
def known1 (ops:Array Oper) (s:TSt S) (o:Oper):Bool:=
 match o.guard with
 | none=>true
 | some (j,want)=>match ops[j]? with
  | some oj=>match oj.dst with
   | some d=>match tget s.frA d with
    | some (.dat _ .bool b)=>match b with
     | true=>want
     | false=>!want
    | _=>false
   | none=>false
  | none=>false
theorem known1_ok {ops:Array Oper}{s:TSt S}{o:Oper}(h:known1 ops s o=true):wants ops s.er o.guard=some true:=by
 unfold known1 at h
 split at h
 ·rename_i hg;rw[hg];rfl
 ·rename_i j want hg
  rw[hg]
  split at h
  ·rename_i oj hj
   split at h
   ·rename_i d hd
    split at h
    ·rename_i f b hb
     have:get s.er.fr d=some (.val (.bool b)):=by rw[show get s.er.fr d=_ from get_erF hb];exact congrArg some (datG_bool f b)
     have hw:wants ops s.er (some (j,want))=some (b==want):=by simp[wants,hj,hd,this]
     rw[hw]
     cases b <;> cases want <;> first | rfl | cases h
    ·cases h
   ·cases h
  ·cases h
def splitG (ops:Array Oper){A:Type}:List Nat→TSt S→(TSt S→Option A)→Option A
 | [],s,k=>k s
 | i::r,s,k=>match ops[i]? with
  | some o=>match o.guard with
   | some (j,_)=>match ops[j]? with
    | some oj=>match oj.dst with
     | some d=>match tget s.frA d with
      | some (.dat _ .bool b)=>cond b (splitG ops r (s.put d (.dat true .bool true)) k) (splitG ops r (s.put d (.dat true .bool false)) k)
      | _=>splitG ops r s k
     | none=>splitG ops r s k
    | none=>splitG ops r s k
   | none=>splitG ops r s k
  | none=>splitG ops r s k
def offG (ops:Array Oper) (s:TSt S) (o:Oper):Bool:=
 match o.guard with
 | none=>false
 | some (j,want)=>match ops[j]? with
  | some oj=>match oj.dst with
   | some d=>match tget s.frA d with
    | some (.dat _ .bool b)=>match b with
     | true=>!want
     | false=>want
    | some (.tup [])=>true
    | _=>false
   | none=>false
  | none=>false
noncomputable def drawC2 (P:Program) (N:Nat) (ok:Nat→Bool) (ops:Array Oper){A:Type}(cl:TSt S→Option Nat→Call→(TSt S→Option A)→Option A):Nat→Array Bool→TSt S→(TSt S→Option A)→Option A
 | 0,listed,s,k=>match Region.ready .any ops listed with
  | []=>k s
  | _=>none
 | fuel+1,listed,s,k=>match Region.ready .any ops listed with
  | []=>k s
  | i0::rs=>match pick (fun o=>dstN N o.dst&&((!(isLdS s o.op)&&!(isEf o.op))||off s o)&&o.dst.isSome) ops listed (i0::rs) with
   | some (i,o)=>guardC N ops s o (fun s'=>match o.dst with
     | some d=>pyC P s' o.op fun v x=>drawC2 P N ok ops cl fuel (listed.setIfInBounds i true) (s'.putL d v x) k
     | none=>none) (fun s'=>drawC2 P N ok ops cl fuel (listed.setIfInBounds i true) s' k)
   | none=>match rs with
    | []=>match ops[i0]? with
     | some o=>match dstN N o.dst with
      | true=>match o.dst,isLdS s o.op&&!(isRowLd s o.op) with
       | some d,true=>guardC N ops s o (fun s'=>ylC P [] s' o.op fun v=>drawC2 P N ok ops cl fuel (listed.setIfInBounds i0 true) (s'.put d v) k) (fun s'=>match Region.free .any ops listed i0 with
        | true=>drawC2 P N ok ops cl fuel (listed.setIfInBounds i0 true) s' k
        | false=>none)
       | _,_=>match isEfS s o.op with
        | true=>guardC N ops s o (fun s'=>efC P ok cl s' o.dst o.op fun s2=>drawC2 P N ok ops cl fuel (listed.setIfInBounds i0 true) s2 k) (fun s'=>match Region.free .any ops listed i0 with
         | true=>drawC2 P N ok ops cl fuel (listed.setIfInBounds i0 true) s' k
         | false=>none)
        | false=>none
      | false=>none
     | none=>none
    | _=>splitG ops (i0::rs) s fun s=>match pick (fun o=>dstN N o.dst&&offG ops s o&&o.dst.isSome) ops listed (i0::rs) with
     | some (i,o)=>match skipT N s o with
      | some s'=>drawC2 P N ok ops cl fuel (listed.setIfInBounds i true) s' k
      | none=>none
     | none=>ambL ((i0::rs).map fun i=>match ops[i]? with
      | some o=>match dstN N o.dst&&known1 ops s o with
       | true=>match o.dst,isLdS s o.op&&!(isRowLd s o.op) with
        | some d,true=>ylC P [] s o.op fun v=>drawC2 P N ok ops cl fuel (listed.setIfInBounds i true) (s.put d v) k
        | _,_=>match isEfS s o.op with
         | true=>efC P ok cl s o.dst o.op fun s2=>drawC2 P N ok ops cl fuel (listed.setIfInBounds i true) s2 k
         | false=>none
       | false=>none
      | none=>none)
noncomputable def drawC1 (P:Program) (N:Nat) (ok:Nat→Bool) (W:List Nat) (ops:Array Oper){A:Type}(cl:TSt S→Option Nat→Call→(TSt S→Option A)→Option A):Nat→Array Bool→TSt S→(TSt S→Option A)→Option A
 | 0,listed,s,k=>drawC2 P N ok ops cl 0 listed s k
 | fuel+1,listed,s,k=>match pick (fun o=>dstN N o.dst&&calm W s o&&o.dst.isSome) ops listed (Region.ready .any ops listed) with
  | some (i,o)=>guardC N ops s o (fun s'=>match o.dst with
    | some d=>match isLdS s' o.op with
     | true=>ylC P W s' o.op fun v=>drawC1 P N ok W ops cl fuel (listed.setIfInBounds i true) (s'.put d v) k
     | false=>pyC P s' o.op fun v x=>drawC1 P N ok W ops cl fuel (listed.setIfInBounds i true) (s'.putL d v x) k
    | none=>none) (fun s'=>drawC1 P N ok W ops cl fuel (listed.setIfInBounds i true) s' k)
  | none=>drawC2 P N ok ops cl (fuel+1) listed s k
noncomputable def drawC (P:Program) (N:Nat) (ok:Nat→Bool) (W:List Nat) (ops:Array Oper){A:Type}(cl:TSt S→Option Nat→Call→(TSt S→Option A)→Option A) (s:TSt S) (k:TSt S→Option A):Option A:=
 match Region.noSelect ops&&noDefer ops.toList with
 | true=>drawC1 P N ok W ops cl ops.size (Array.replicate ops.size false) s k
 | false=>none
section
variable {P:Program}{N:Nat}{cx:Cx}{Q:Exit→St→Prop}{W:List Nat}{ok:Nat→Bool}{A:Type}{cl:TSt S→Option Nat→Call→(TSt S→Option A)→Option A}{r:A}{ops:Array Oper}
theorem wantsA_lit {s:TSt S}{j d:Nat}{want b:Bool}{oj:Oper}(h1:ops[j]?=some oj) (h2:oj.dst=some d) (h3:tget s.frA d=some (.dat true .bool b)):wants ops s.er (some (j,want))=some (b==want):=by
 have:get s.er.fr d=some (.val (.bool b)):=by rw[show get s.er.fr d=_ from get_erF h3];exact congrArg some (datG_bool true b)
 simp[wants,h1,h2,this]
theorem wantsA_tup {s:TSt S}{j d:Nat}{want:Bool}{oj:Oper}(h1:ops[j]?=some oj) (h2:oj.dst=some d) (h3:tget s.frA d=some (.tup [])):wants ops s.er (some (j,want))=some false:=by
 have:get s.er.fr d=some (.tup []):=by rw[show get s.er.fr d=_ from get_erF h3];rfl
 simp[wants,h1,h2,this]
theorem offG_ok {s:TSt S}{o:Oper}(h:offG ops s o=true):wants ops s.er o.guard=some false:=by
 unfold offG at h
 split at h
 ·cases h
 ·rename_i j want hg
  rw[hg]
  split at h
  ·rename_i oj hj
   split at h
   ·rename_i d hd
    split at h
    ·rename_i f b hb
     have:get s.er.fr d=some (.val (.bool b)):=by rw[show get s.er.fr d=_ from get_erF hb];exact congrArg some (datG_bool f b)
     have hw:wants ops s.er (some (j,want))=some (b==want):=by simp[wants,hj,hd,this]
     rw[hw]
     cases b <;> cases want <;> first | rfl | cases h
    ·rename_i hb
     have:get s.er.fr d=some (.tup []):=get_erF hb
     simp[wants,hj,hd,this]
    ·cases h
   ·cases h
  ·cases h
theorem splitG_ok {X:St→Prop}(hlit:∀(s:St) (t:Nat) (b v:Bool),get s.fr t=some (.val (.bool b))→b=v→X {fr:=(t,.val (.bool v))::s.fr,st:=s.st,df:=s.df}→X s):∀{l:List Nat}{s:TSt S}{k:TSt S→Option A},LInv s→splitG ops l s k=some r→
  (∀t:TSt S,LInv t→Keep s t→k t=some r→X t.er)→X s.er
 | [],s,k,hl,h,hk=>hk s hl (Keep.refl s) h
 | i::l,s,k,hl,h,hk=>by
  have lit:∀{s:TSt S}{d:Nat}{f b:Bool}(v:Bool),tget s.frA d=some (.dat f .bool b)→b=v→X (s.put d (.dat true .bool v)).er→X s.er:=by
   intro s d f b v hb e hX
   refine hlit _ d b v ?_ e ?_
   ·rw[show get s.er.fr d=_ from get_erF hb];exact congrArg some (datG_bool f b)
   ·rw[put_er] at hX
    have e2:(TV.dat true .bool v:TV S).er s.ln=.val (.bool v):=datG_bool true v
    rw[e2] at hX
    exact hX
  simp only[splitG] at h
  split at h
  ·split at h
   ·split at h
    ·split at h
     ·rename_i d _
      split at h
      ·rename_i f b hb
       cases hbv:b with
       | true=>
        rw[hbv] at h
        exact lit true hb hbv (splitG_ok hlit (hl.put d _) h fun t a1 a2 a3=>hk t a1 ⟨a2.lo,a2.lst,a2.df⟩ a3)
       | false=>
        rw[hbv] at h
        exact lit false hb hbv (splitG_ok hlit (hl.put d _) h fun t a1 a2 a3=>hk t a1 ⟨a2.lo,a2.lst,a2.df⟩ a3)
      ·exact splitG_ok hlit hl h hk
     ·exact splitG_ok hlit hl h hk
    ·exact splitG_ok hlit hl h hk
   ·exact splitG_ok hlit hl h hk
  ·exact splitG_ok hlit hl h hk
theorem guardC_ok {X:St→Prop}(hlit:∀(s:St) (t:Nat) (b v:Bool),get s.fr t=some (.val (.bool b))→b=v→X {fr:=(t,.val (.bool v))::s.fr,st:=s.st,df:=s.df}→X s)
  {s:TSt S}{o:Oper}{run skip:TSt S→Option A}(hl:LInv s) (h:guardC N ops s o run skip=some r)
  (hrun:∀t:TSt S,LInv t→Keep s t→wants ops t.er o.guard=some true→run t=some r→X t.er)
  (hskip:∀(t t':TSt S),LInv t→Keep s t→wants ops t.er o.guard=some false→skipT N t o=some t'→skip t'=some r→X t.er):X s.er:=by
 unfold guardC at h
 have lit:∀{s:TSt S}{d:Nat}{f b:Bool}(v:Bool),tget s.frA d=some (.dat f .bool b)→b=v→X (s.put d (.dat true .bool v)).er→X s.er:=by
  intro s d f b v hb e hX
  refine hlit _ d b v ?_ e ?_
  ·rw[show get s.er.fr d=_ from get_erF hb];exact congrArg some (datG_bool f b)
  ·rw[put_er] at hX
   have e2:(TV.dat true .bool v:TV S).er s.ln=.val (.bool v):=datG_bool true v
   rw[e2] at hX
   exact hX
 split at h
 ·rename_i hg
  exact hrun s hl (Keep.refl s) (by rw[hg];rfl) h
 ·rename_i j want hg
  split at h
  ·rename_i oj hj
   split at h
   ·rename_i d hd
    split at h
    ·rename_i f b hb
     have hlt:=fun v=>LInv.put hl d (.dat true .bool v:TV S)
     have ht:∀v,tget (s.put d (.dat true .bool v)).frA d=some (.dat true .bool v):=fun v=>by simp only[TSt.put,TSt.frA,List.cons_append,tget,Nat.beq_refl,cond_true]
     split at h
     ·cases hbv:b with
      | true=>
       rw[hbv] at h
       exact lit true hb hbv (hrun _ (hlt true) ⟨rfl,rfl,rfl⟩ (by rw[hg,wantsA_lit hj hd (ht true)];rfl) h)
      | false=>
       rw[hbv] at h
       dsimp only[cond_false] at h
       refine lit false hb hbv ?_
       split at h
       ·rename_i s' hs
        exact hskip _ s' (hlt false) ⟨rfl,rfl,rfl⟩ (by rw[hg,wantsA_lit hj hd (ht false)];rfl) hs h
       ·cases h
     ·cases hbv:b with
      | true=>
       rw[hbv] at h
       dsimp only[cond_true] at h
       refine lit true hb hbv ?_
       split at h
       ·rename_i s' hs
        exact hskip _ s' (hlt true) ⟨rfl,rfl,rfl⟩ (by rw[hg,wantsA_lit hj hd (ht true)];rfl) hs h
       ·cases h
      | false=>
       rw[hbv] at h
       exact lit false hb hbv (hrun _ (hlt false) ⟨rfl,rfl,rfl⟩ (by rw[hg,wantsA_lit hj hd (ht false)];rfl) h)
    ·rename_i hb
     split at h
     ·rename_i s' hs
      exact hskip _ s' hl (Keep.refl s) (by rw[hg,wantsA_tup hj hd hb]) hs h
     ·cases h
    ·cases h
   ·cases h
  ·cases h
theorem skipT_some {s t:TSt S}{o:Oper}{d:Nat}(hd:o.dst=some d) (h:skipT N s o=some t):d<N∧t=s.put d (.tup []):=by
 unfold skipT at h
 rw[hd] at h
 dsimp only at h
 split at h
 ·rename_i hN
  cases h
  exact⟨by simpa[Nat.blt_eq] using hN,rfl⟩
 ·cases h
theorem GH2.passN {s:St}{fuel:Nat}{listed:Array Bool}(i:Nat){o:Oper}(hi:ops[i]?=some o) (hs:Region.noSelect ops=true) (hf:Region.free .any ops listed i=true)
  (hr:(Region.ready .any ops listed).contains i=true) (hw:wants ops s o.guard=some false) (hd:o.dst=none)
  (h:GH2 P N cx ops Q W fuel (listed.setIfInBounds i true) s):GH2 P N cx ops Q W (fuel+1) listed s:=by
 intro ws Wb μ a w hrel hS hW
 refine wpAnyH_take (v:=undef) hi hs hf hr (fun c a' w' h=>(by rw[hd] at h;exact h)) (.inr ⟨wants_spec hrel hw,rfl⟩) hS ?_
 rw[hd]
 exact h ws Wb μ _ w hrel hS hW
theorem drawC2_ok (hokW:∀h,ok h=true→W.contains h=true){kp:List PanicEntry→TSt S→Option A}(hcl:ClOk P N W cl kp r) (hs:Region.noSelect ops=true) (hpn:PNo Q (dsts ops)):∀{fuel:Nat}{listed:Array Bool}{s:TSt S}{k:TSt S→Option A},LInv s→drawC2 P N ok ops cl fuel listed s k=some r→
  (∀t:TSt S,LInv t→Keep s t→k t=some r→Q .normal t.er)→(∀ch (t:TSt S),LInv t→Keep s t→kp ch t=some r→∃u,Gh t.er u∧Q (.panic ch) u)→GH2 P N cx ops Q W fuel listed s.er
 | 0,listed,s,k,hl,h,hk,hkp=>by
  unfold drawC2 at h
  split at h
  ·rename_i hr
   exact GH2.done hr (hk s hl (Keep.refl s) h)
  ·cases h
 | fuel+1,listed,s,k,hl,h,hk,hkp0=>by
  unfold drawC2 at h
  split at h
  ·rename_i hr
   exact GH2.done hr (hk s hl (Keep.refl s) h)
  ·rename_i i0 rs hr
   split at h
   ·rename_i i o hp
    obtain⟨p1,p2,p3,p4⟩:=pick_ok hp
    simp only[Bool.and_eq_true] at p3
    obtain⟨⟨q1,q2⟩,q4⟩:=p3
    have hcon:(Region.ready .any ops listed).contains i=true:=by rw[hr];exact List.contains_iff_mem.2 p1
    refine guardC_ok (X:=fun s=>GH2 P N cx ops Q W (fuel+1) listed s) (fun s t b v h1 h2 h3=>GH2.lit t h1 h2 h3) hl h (fun t hl' hkp hw h'=>?_) (fun t t' hl' hkp hw hsk h'=>?_)
    ·cases hd:o.dst with
     | none=>rw[hd] at q4;cases q4
     | some d=>
      rw[hd] at h' q1
      dsimp only at h'
      have hN:d<N:=by simpa[dstN,Nat.blt_eq] using q1
      obtain⟨v,x,h1,h2,h3⟩:=pyC_ok (dst:=o.dst) (ty:=o.type) (pos:=o.pos) (after:=o.after) (guard:=o.guard) h'
      refine GH2.take i hpn p2 hs p4 hcon hw hd hN h1 ?_
      rw[←putL_er t d v x]
      exact drawC2_ok hokW hcl hs hpn (putL_ok hl' d h2) h3 (fun t2 a1 a2 a3=>hk t2 a1 ((hkp.trans (putL_keep t d v x)).trans a2) a3) fun ch t2 a1 a2 a3=>hkp0 ch t2 a1 ((hkp.trans (putL_keep t d v x)).trans a2) a3
    ·cases hd:o.dst with
     | none=>rw[hd] at q4;cases q4
     | some d=>
      obtain⟨hN,e⟩:=skipT_some hd hsk
      subst e
      exact GH2.passu i hpn p2 hs p4 hcon hw hd hN (drawC2_ok hokW hcl hs hpn (hl'.put _ _) h' (fun t2 a1 a2 a3=>hk t2 a1 (hkp.trans ⟨a2.lo,a2.lst,a2.df⟩) a3) fun ch t2 a1 a2 a3=>hkp0 ch t2 a1 (hkp.trans ⟨a2.lo,a2.lst,a2.df⟩) a3)
   ·split at h
    ·split at h
     ·rename_i o ho
      split at h
      ·rename_i hdN
       split at h
       ·rename_i d hd hld
        have hN:d<N:=by rw[hd] at hdN;simpa[dstN,Nat.blt_eq] using hdN
        refine guardC_ok (X:=fun s=>GH2 P N cx ops Q W (fuel+1) listed s) (fun s t b v h1 h2 h3=>GH2.lit t h1 h2 h3) hl h (fun t hl' hkp hw h'=>?_) (fun t t' hl' hkp hw hsk h'=>?_)
        ·obtain⟨v,h1,h2⟩:=ylC_ok (dst:=o.dst) (ty:=o.type) (pos:=o.pos) (after:=o.after) (guard:=o.guard) hl' h'
         exact GH2.oneY i0 hr ho hw hd hN h1 (drawC2_ok hokW hcl hs hpn (hl'.put d v) h2 (fun t2 a1 a2 a3=>hk t2 a1 (hkp.trans ⟨a2.lo,a2.lst,a2.df⟩) a3) fun ch t2 a1 a2 a3=>hkp0 ch t2 a1 (hkp.trans ⟨a2.lo,a2.lst,a2.df⟩) a3)
        ·split at h'
         ·rename_i hf
          obtain⟨_,e⟩:=skipT_some hd hsk
          subst e
          exact GH2.passu i0 hpn ho hs hf (by rw[hr];simp) hw hd hN (drawC2_ok hokW hcl hs hpn (hl'.put _ _) h' (fun t2 a1 a2 a3=>hk t2 a1 (hkp.trans ⟨a2.lo,a2.lst,a2.df⟩) a3) fun ch t2 a1 a2 a3=>hkp0 ch t2 a1 (hkp.trans ⟨a2.lo,a2.lst,a2.df⟩) a3)
         ·cases h'
       ·split at h
        ·refine guardC_ok (X:=fun s=>GH2 P N cx ops Q W (fuel+1) listed s) (fun s t b v h1 h2 h3=>GH2.lit t h1 h2 h3) hl h (fun t hl' hkp hw h'=>?_) (fun t t' hl' hkp hw hsk h'=>?_)
         ·obtain⟨T,Tp,h1,h2,h2p⟩:=efC_ok hokW hcl hl' h'
          refine GH2.oneP i0 hr ho hw (fun d e=>?_) (EffectP.tell (Tp':=fun ch u=>Q (.panic ch) u) h1 fun ch s' ht=>?_) (fun s' ht=>?_) fun _ _ h=>h
          ·rw[e] at hdN;simpa[dstN,Nat.blt_eq] using hdN
          ·obtain⟨t2,g1,g2,g3,g4⟩:=h2p ch s' ht
           obtain⟨u,g5,g6⟩:=hkp0 ch t2 g2 (hkp.trans g3) g4
           exact⟨u,g1.trans g5,g6⟩
          ·obtain⟨t2,g1,g2,g3,g4⟩:=h2 s' ht
           exact GH2.gh g1 (drawC2_ok hokW hcl hs hpn g2 g4 (fun t3 a1 a2 a3=>hk t3 a1 ((hkp.trans g3).trans a2) a3) fun ch t3 a1 a2 a3=>hkp0 ch t3 a1 ((hkp.trans g3).trans a2) a3)
         ·split at h'
          ·rename_i hf
           cases hd:o.dst with
           | none=>
            unfold skipT at hsk
            rw[hd] at hsk
            dsimp only at hsk
            cases hsk
            exact GH2.passN i0 ho hs hf (by rw[hr];simp) hw hd (drawC2_ok hokW hcl hs hpn hl' h' (fun t2 a1 a2 a3=>hk t2 a1 (hkp.trans ⟨a2.lo,a2.lst,a2.df⟩) a3) fun ch t2 a1 a2 a3=>hkp0 ch t2 a1 (hkp.trans ⟨a2.lo,a2.lst,a2.df⟩) a3)
           | some d=>
            obtain⟨hN,e⟩:=skipT_some hd hsk
            subst e
            exact GH2.passu i0 hpn ho hs hf (by rw[hr];simp) hw hd hN (drawC2_ok hokW hcl hs hpn (hl'.put _ _) h' (fun t2 a1 a2 a3=>hk t2 a1 (hkp.trans ⟨a2.lo,a2.lst,a2.df⟩) a3) fun ch t2 a1 a2 a3=>hkp0 ch t2 a1 (hkp.trans ⟨a2.lo,a2.lst,a2.df⟩) a3)
          ·cases h'
        ·cases h
      ·cases h
     ·cases h
    ·refine splitG_ok (X:=fun s=>GH2 P N cx ops Q W (fuel+1) listed s) (fun s t b v h1 h2 h3=>GH2.lit t h1 h2 h3) hl h fun s1 hl1 hk1 h=>?_
     split at h
     ·rename_i i o hp
      obtain⟨p1,p2,p3,p4⟩:=pick_ok hp
      simp only[Bool.and_eq_true] at p3
      obtain⟨⟨q1,q2⟩,q4⟩:=p3
      have hcon:(Region.ready .any ops listed).contains i=true:=by rw[hr];exact List.contains_iff_mem.2 p1
      split at h
      ·rename_i s' hsk
       cases hd:o.dst with
       | none=>rw[hd] at q4;cases q4
       | some d=>
        obtain⟨hN,e⟩:=skipT_some hd hsk
        subst e
        exact GH2.passu i hpn p2 hs p4 hcon (offG_ok q2) hd hN (drawC2_ok hokW hcl hs hpn (hl1.put _ _) h (fun t2 a1 a2 a3=>hk t2 a1 (hk1.trans ⟨a2.lo,a2.lst,a2.df⟩) a3) fun ch t2 a1 a2 a3=>hkp0 ch t2 a1 (hk1.trans ⟨a2.lo,a2.lst,a2.df⟩) a3)
      ·cases h
     ·have hall:=ambL_spec h
      refine GH2.any i0 rs hr ?_
      have turn:∀i,i∈i0::rs→Turn P N cx ops Q W fuel listed s1.er i:=by
       intro i hi
       have hx:=hall _ (List.mem_map_of_mem hi)
       split at hx
       ·rename_i o ho
        split at hx
        ·rename_i hc
         simp only[Bool.and_eq_true] at hc
         obtain⟨hdN,hkn⟩:=hc
         have hw:=known1_ok hkn
         split at hx
         ·rename_i d hd hld
          have hN:d<N:=by rw[hd] at hdN;simpa[dstN,Nat.blt_eq] using hdN
          obtain⟨v,h1,h2⟩:=ylC_ok (dst:=o.dst) (ty:=o.type) (pos:=o.pos) (after:=o.after) (guard:=o.guard) hl1 hx
          exact Turn.y i ho hw hd hN h1 (drawC2_ok hokW hcl hs hpn (hl1.put d v) h2 (fun t2 a1 a2 a3=>hk t2 a1 (hk1.trans ⟨a2.lo,a2.lst,a2.df⟩) a3) fun ch t2 a1 a2 a3=>hkp0 ch t2 a1 (hk1.trans ⟨a2.lo,a2.lst,a2.df⟩) a3)
         ·split at hx
          ·obtain⟨T,Tp,h1,h2,h2p⟩:=efC_ok hokW hcl hl1 hx
           refine Turn.eP i ho hw (fun d e=>?_) (EffectP.tell (Tp':=fun ch u=>Q (.panic ch) u) h1 fun ch s' ht=>?_) (fun s' ht=>?_) fun _ _ h=>h
           ·rw[e] at hdN;simpa[dstN,Nat.blt_eq] using hdN
           ·obtain⟨t2,g1,g2,g3,g4⟩:=h2p ch s' ht
            obtain⟨u,g5,g6⟩:=hkp0 ch t2 g2 (hk1.trans g3) g4
            exact⟨u,g1.trans g5,g6⟩
           ·obtain⟨t2,g1,g2,g3,g4⟩:=h2 s' ht
            exact GH2.gh g1 (drawC2_ok hokW hcl hs hpn g2 g4 (fun t3 a1 a2 a3=>hk t3 a1 (hk1.trans (g3.trans a2)) a3) fun ch t3 a1 a2 a3=>hkp0 ch t3 a1 (hk1.trans (g3.trans a2)) a3)
          ·cases hx
        ·cases hx
       ·cases hx
      clear hr hall h
      generalize i0::rs=l at turn
      induction l with
      | nil=>exact trivial
      | cons x r ih=>exact⟨turn x List.mem_cons_self,ih fun i hi=>turn i (List.mem_cons_of_mem _ hi)⟩
theorem drawC1_ok (hokW:∀h,ok h=true→W.contains h=true){kp:List PanicEntry→TSt S→Option A}(hcl:ClOk P N W cl kp r) (hs:Region.noSelect ops=true) (hpn:PNo Q (dsts ops)):∀{fuel:Nat}{listed:Array Bool}{s:TSt S}{k:TSt S→Option A},LInv s→drawC1 P N ok W ops cl fuel listed s k=some r→
  (∀t:TSt S,LInv t→Keep s t→k t=some r→Q .normal t.er)→(∀ch (t:TSt S),LInv t→Keep s t→kp ch t=some r→∃u,Gh t.er u∧Q (.panic ch) u)→GH1 P N cx ops Q W fuel listed s.er
 | 0,listed,s,k,hl,h,hk,hkp0=>GH1.later (drawC2_ok hokW hcl hs hpn hl h hk hkp0)
 | fuel+1,listed,s,k,hl,h,hk,hkp0=>by
  unfold drawC1 at h
  split at h
  ·rename_i i o hp
   obtain⟨p1,p2,p3,p4⟩:=pick_ok hp
   simp only[Bool.and_eq_true] at p3
   obtain⟨⟨q1,q2⟩,q4⟩:=p3
   have hcon:(Region.ready .any ops listed).contains i=true:=List.contains_iff_mem.2 p1
   refine guardC_ok (X:=fun s=>GH1 P N cx ops Q W (fuel+1) listed s) (fun s t b v h1 h2 h3=>GH1.lit t h1 h2 h3) hl h (fun t hl' hkp hw h'=>?_) (fun t t' hl' hkp hw hsk h'=>?_)
   ·cases hd:o.dst with
    | none=>rw[hd] at q4;cases q4
    | some d=>
     rw[hd] at h' q1
     dsimp only at h'
     have hN:d<N:=by simpa[dstN,Nat.blt_eq] using q1
     split at h'
     ·obtain⟨v,h1,h2⟩:=ylC_ok (dst:=o.dst) (ty:=o.type) (pos:=o.pos) (after:=o.after) (guard:=o.guard) hl' h'
      exact GH1.take i hpn p2 hs p4 hcon hw hd hN h1 (drawC1_ok hokW hcl hs hpn (hl'.put d v) h2 (fun t2 a1 a2 a3=>hk t2 a1 (hkp.trans ⟨a2.lo,a2.lst,a2.df⟩) a3) fun ch t2 a1 a2 a3=>hkp0 ch t2 a1 (hkp.trans ⟨a2.lo,a2.lst,a2.df⟩) a3)
     ·obtain⟨v,x,h1,h2,h3⟩:=pyC_ok (dst:=o.dst) (ty:=o.type) (pos:=o.pos) (after:=o.after) (guard:=o.guard) h'
      refine GH1.take i hpn p2 hs p4 hcon hw hd hN (h1.yield W) ?_
      rw[←putL_er t d v x]
      exact drawC1_ok hokW hcl hs hpn (putL_ok hl' d h2) h3 (fun t2 a1 a2 a3=>hk t2 a1 ((hkp.trans (putL_keep t d v x)).trans a2) a3) fun ch t2 a1 a2 a3=>hkp0 ch t2 a1 ((hkp.trans (putL_keep t d v x)).trans a2) a3
   ·cases hd:o.dst with
    | none=>rw[hd] at q4;cases q4
    | some d=>
     obtain⟨hN,e⟩:=skipT_some hd hsk
     subst e
     exact GH1.passu i hpn p2 hs p4 hcon hw hd hN (drawC1_ok hokW hcl hs hpn (hl'.put _ _) h' (fun t2 a1 a2 a3=>hk t2 a1 (hkp.trans ⟨a2.lo,a2.lst,a2.df⟩) a3) fun ch t2 a1 a2 a3=>hkp0 ch t2 a1 (hkp.trans ⟨a2.lo,a2.lst,a2.df⟩) a3)
  ·exact GH1.later (drawC2_ok hokW hcl hs hpn hl h hk hkp0)
theorem drawC_ok {id:Nat}(hm:P.follows .mixedOrders=true) (hokW:∀h,ok h=true→W.contains h=true){kp:List PanicEntry→TSt S→Option A}(hcl:ClOk P N W cl kp r){s:TSt S}{k:TSt S→Option A}(hl:LInv s) (h:drawC P N ok W ops cl s k=some r)
  (hk:∀t:TSt S,LInv t→Keep s t→k t=some r→Q .normal t.er) (hkp:∀ch (t:TSt S),LInv t→Keep s t→kp ch t=some r→∃u,Gh t.er u∧Q (.panic ch) u∧∀d,d∈dsts ops→get u.fr d=none):GW P N cx (.region id ops true) Q s.er:=by
 unfold drawC at h
 split at h
 ·rename_i hc
  simp only[Bool.and_eq_true] at hc
  refine(GW.draws (Q:=fun e s=>Q e s∧∀ch,e=.panic ch→∀d,d∈dsts ops→get s.fr d=none) W hm (drawC1_ok hokW hcl hc.1 (fun c s h d hd=>h.2 c rfl d hd) hl h (fun t a b c=>⟨hk t a b c,fun ch e=>by cases e⟩) fun ch t a b c=>?_) hc.2).mono fun e s h=>h.1
  obtain⟨u,g1,g2,g3⟩:=hkp ch t a b c
  exact⟨u,g1,g2,fun _ _=>g3⟩
 ·cases h
end
end
end Go.DN
