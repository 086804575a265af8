/-
  Sums, bounds, the points of a box.
-/
import Derived.Test.YtfkigaldejbeiaaFvA
set_option linter.unusedSimpArgs false
set_option linter.unusedVariables false
namespace Go.DN
open Go.AM
structure Good (p:bu):Prop where
 len:p.aU.length≤4
 box:∀x∈p.aU,0≤x∧x≤4096
 prod:z8 1 p.aU≤4096
 rows:p.Rows.length≤8
 row:∀r∈p.Rows,r.db.length=p.aU.length∧(-1048576≤r.Const∧r.Const≤1048576)∧∀c∈r.db,-1048576≤c∧c≤1048576
theorem Cz {v:Int}:∀{l:List aO},sV v l=0→∀r∈l,fN r v=0
 | [],_,_,h=>by cases h
 | x::l,e,r,h=>by
  simp only[sV] at e
  split at e
  ·contradiction
  ·rename_i h1
   rcases aZ.1 h with rfl | h
   ·simpa using h1
   ·exact Cz e r h
theorem xZ {c:Int}(h:vJ c=false):-1048576≤c∧c≤1048576:=by
 simp[vJ] at h;omega
theorem JV {p:bu}(h:mR p=0):Good p:=by
 unfold mR at h
 split at h
 ·cases h
 ·split at h
  ·cases h
  ·split at h
   ·cases h
   ·split at h
    ·cases h
    ·rename_i h1 h2 h3 h4
     refine⟨by omega,fun x hx=>?_,by omega,by omega,fun r hr=>?_⟩
     ·have:=mB.1 (by simpa using h2) x hx
      simp[Es] at this
      omega
     ·have:=Cz h r hr
      unfold fN at this
      split at this
      ·cases this
      ·split at this
       ·cases this
       ·rename_i h5 h6
        rw[Bool.not_eq_true,bI] at h6
        refine⟨by omega,xZ h6.1,fun c hc=>xZ ?_⟩
        have:=mB.1 h6.2 c hc
        simpa using this
def j7 (t:Nat→Int):Nat→Int
 | 0=>0
 | n+1=>j7 t n+t n
theorem zW {t u:Nat→Int}:∀{n:Nat},(∀i,i<n→t i≤u i)→j7 t n≤j7 u n
 | 0,_=>Int.le_refl _
 | n+1,h=>Int.add_le_add (zW fun i hi=>h i (by omega)) (h n (by omega))
theorem KC {t u:Nat→Int}{n:Nat}(h:∀i,i<n→t i=u i):j7 t n=j7 u n:=
 Int.le_antisymm (zW fun i hi=>Int.le_of_eq (h i hi)) (zW fun i hi=>Int.le_of_eq (h i hi).symm)
theorem GD {t:Nat→Int}:∀{n:Nat},(∀i,i<n→-4294967296≤t i∧t i≤4294967296)→-(4294967296*(n:Int))≤j7 t n∧j7 t n≤4294967296*(n:Int)
 | 0,_=>by simp[j7]
 | n+1,h=>by
  have h1:=GD (n:=n) fun i hi=>h i (by omega)
  have h2:=h n (by omega)
  simp only[j7]
  omega
theorem GC (body:Int×Int→Option (Int×Int⊕Int)) (t:Nat→Int) (N:Nat) (c:Int) (hN:N≤4) (hc:-1048576≤c∧c≤1048576) (ht:∀k,k<N→-4294967296≤t k∧t k≤4294967296)
  (hstep:∀(k:Nat) (n:Int),k<N→-1125899906842624≤n→n≤1125899906842624→body (n,(k:Int))=some (.inl (n+t k,((k+1:Nat):Int)))) (hend:∀n,body (n,(N:Int))=some (.inr n)) (fu:Nat) (hf:10<fu):
  aB body fu (c,0)=some (c+j7 t N):=by
 have key:∀(m k aK:Nat),k+m=N→m<aK→aB body aK (c+j7 t k,(k:Int))=some (c+j7 t N):=by
  intro m
  induction m with
  | zero=>
   intro k aK h1 h2
   obtain⟨aK,rfl⟩:∃f,aK=f+1:=⟨aK-1,by omega⟩
   have:k=N:=by omega
   subst this
   simp only[aB,hend]
  | succ m ih=>
   intro k aK h1 h2
   obtain⟨aK,rfl⟩:∃f,aK=f+1:=⟨aK-1,by omega⟩
   have h3:=GD (n:=k) fun i hi=>ht i (by omega)
   simp only[aB,hstep k (c+j7 t k) (by omega) (by omega) (by omega)]
   rw[show c+j7 t k+t k=c+j7 t (k+1) by simp only[j7];omega]
   exact ih (k+1) aK (by omega) (by omega)
 have:=key N 0 fu (by omega) (by omega)
 simpa[j7] using this
theorem Hw {c x:Int}(hc:-1048576≤c∧c≤1048576) (hx:-4096≤x∧x≤4096):-4294967296≤c*x∧c*x≤4294967296:=by
 have h1:c.natAbs≤1048576:=by omega
 have h2:x.natAbs≤4096:=by omega
 have h3:=Nat.mul_le_mul h1 h2
 rw[←Int.natAbs_mul] at h3
 omega
def dR (r:aO) (x:List Int):Int:=r.Const+j7 (fun i=>r.db.getD i 0*x.getD i 0) r.db.length
def zl (r:aO) (p:bu) (x:List Int) (k i:Nat):Int:=if i<k then r.db.getD i 0*x.getD i 0 else if r.db.getD i 0>0 then r.db.getD i 0*(p.aU.getD i 0-1) else 0
def oS (r:aO) (p:bu) (x:List Int) (k:Nat):Int:=r.Const+j7 (zl r p x k) r.db.length
theorem fw {l:List Int}{i:Nat}(h:i<l.length):l[i]?=some (l.getD i 0):=by
 rw[aE,ag h];rfl
theorem lV {l:List Int}{i:Nat}(h:i<l.length):l.getD i 0∈l:=ar (fw h)
def ku (x:List Int):Prop:=∀y∈x,0≤y∧y≤4096
theorem Cb {p:bu}(g:Good p){r:aO}(hr:r∈p.Rows){x:List Int}(hx:ku x) (hl:x.length=p.aU.length):∀k,k<r.db.length→-4294967296≤r.db.getD k 0*x.getD k 0∧r.db.getD k 0*x.getD k 0≤4294967296:=fun k hk=>by
 have h1:=(g.row r hr).2.2 _ (lV hk)
 have h2:=hx _ (lV (l:=x) (i:=k) (by rw[hl,←(g.row r hr).1];exact hk))
 exact Hw h1 ⟨by omega,by omega⟩
theorem LM (fu:Nat){p:bu}(g:Good p){r:aO}(hr:r∈p.Rows){x:List Int}(hx:ku x) (hl:x.length=p.aU.length) (hf:10<fu):F.po fu r x=some (dR r x):=by
 have hlen:=(g.row r hr).1
 have h4:=g.len
 have:=GC (F.pM fu r x) (fun i=>r.db.getD i 0*x.getD i 0) r.db.length r.Const (by omega) (g.row r hr).2.1 (Cb g hr hx hl)
  (fun k n hk h0 h1=>by
   have ht:=Cb g hr hx hl k hk
   have hw:IntKind.i64.wrap ((k:Int)+1)=((k+1:Nat):Int):=dh hk (by omega)
   have hd:decide ((k:Int)<(r.db.length:Int))=true:=by simp;omega
   simp only[F.pM,hd,cond_true,bM (fw hk),bM (fw (l:=x) (i:=k) (by omega)),ae,hw]
   rw[i64 (n:=r.db.getD k 0*x.getD k 0) (by omega) (by omega),i64 (by omega) (by omega)])
  (fun n=>by simp only[F.pM,eF,cond_false]) fu hf
 simp only[F.po,this,ae]
 rfl
theorem Fe {p:bu}(g:Good p){r:aO}(hr:r∈p.Rows){x:List Int}(hx:ku x) (hl:x.length=p.aU.length) (k:Nat):∀i,i<r.db.length→-4294967296≤zl r p x k i∧zl r p x k i≤4294967296:=fun i hi=>by
 have h1:=(g.row r hr).2.2 _ (lV hi)
 have h2:=Cb g hr hx hl i hi
 have h3:=g.box _ (lV (l:=p.aU) (i:=i) (by rw[←(g.row r hr).1];exact hi))
 unfold zl
 split
 ·exact h2
 ·split
  ·exact Hw h1 ⟨by omega,by omega⟩
  ·omega
theorem AP (fu:Nat){p:bu}(g:Good p){x:List Int}(hx:ku x) (hl:x.length=p.aU.length) (k:Nat) (hf:10<fu):F.kL fu p x k=some (p.Rows.any fun r=>decide (oS r p x k<0)):=by
 have h4:=g.len
 have h8:=g.rows
 have hloop:=jT (body:=F.kK fu p x k) p.Rows (fun (_:Unit) i=>i)
  (fun _ r=>cond (decide (oS r p x k<0)) (some (.inr (Ex.ret true))) (some (.inl ()))) (fun _=>Ex.dW ())
  (fun z j r hr=>by
   have hw:=dh (ep hr) (by omega)
   have hm:=ar hr
   have hlen:=(g.row r hm).1
   have hs:=GC (F.jg fu p x k r) (zl r p x k) r.db.length r.Const (by omega) (g.row r hm).2.1 (Fe g hm hx hl k)
    (fun i n hi h0 h1=>by
     have ht:=Fe g hm hx hl k i hi
     have hw:IntKind.i64.wrap ((i:Int)+1)=((i+1:Nat):Int):=dh hi (by omega)
     have hd:decide ((i:Int)<(r.db.length:Int))=true:=by simp;omega
     have hbx:=g.box _ (lV (l:=p.aU) (i:=i) (by omega))
     simp only[F.jg,hd,cond_true,bM (fw hi),ae,hw]
     unfold zl at ht⊢
     by_cases hik:i<k
     ·have hd2:decide ((i:Int)<(k:Int))=true:=by simp;omega
      rw[if_pos hik] at ht⊢
      simp only[hd2,cond_true,bM (fw (l:=x) (i:=i) (by omega)),ae]
      rw[i64 (n:=r.db.getD i 0*x.getD i 0) (by omega) (by omega),i64 (by omega) (by omega)]
     ·have hd2:decide ((i:Int)<(k:Int))=false:=by simp;omega
      rw[if_neg hik] at ht⊢
      simp only[hd2,cond_false]
      by_cases hpos:r.db.getD i 0>0
      ·rw[if_pos hpos] at ht⊢
       have hd3:decide (r.db.getD i 0>0)=true:=by simpa using hpos
       simp only[hd3,cond_true,ae,bM (fw (l:=p.aU) (i:=i) (by omega)),ae]
       rw[i64 (n:=p.aU.getD i 0-1) (by omega) (by omega),i64 (n:=r.db.getD i 0*(p.aU.getD i 0-1)) (by omega) (by omega),i64 (by omega) (by omega)]
      ·rw[if_neg hpos] at ht⊢
       have hd3:decide (r.db.getD i 0>0)=false:=by simpa using hpos
       simp only[hd3,cond_false,ae,Int.add_zero])
    (fun n=>by simp only[F.jg,eF,cond_false]) fu hf
   have hs2:aB (F.jg fu p x k r) fu (r.Const,0)=some (oS r p x k):=hs
   simp only[F.kK,dec_lt hr,cond_true,bM hr,ae,hw,hs2]
   rcases fJ (decide (oS r p x k<0)) with h | h <;> simp only[h,cond_true,cond_false] <;> rfl)
  (fun n=>by simp only[F.kK,eF,cond_false]) fu (by omega) ()
 simp only[F.kL,hloop,Cd]
 rcases fJ (p.Rows.any fun r=>decide (oS r p x k<0)) with h | h <;> simp[h,eU]
def ext:List Int→List Int→List (List Int)
 | [],pre=>[pre]
 | n::r,pre=>(List.range n.toNat).flatMap fun (i:Nat)=>ext r (pre++[(i:Int)])
def DC:List Int→List Int→Prop
 | [],[]=>True
 | n::r,i::t=>0≤i∧i<n∧DC r t
 | _,_=>False
theorem tD:∀{r pre q:List Int},q∈ext r pre↔∃t,q=pre++t∧DC r t
 | [],pre,q=>by
  simp only[ext,cu]
  constructor
  ·rintro rfl;exact⟨[],by simp,trivial⟩
  ·rintro⟨t,rfl,h⟩
   cases t with
   | nil=>simp
   | cons _ _=>exact h.elim
 | n::r,pre,q=>by
  simp only[ext,ib,List.mem_range]
  constructor
  ·rintro⟨i,hi,h⟩
   obtain⟨t,rfl,ht⟩:=tD.1 h
   exact⟨(i:Int)::t,by simp,by omega,by omega,ht⟩
  ·rintro⟨t,rfl,h⟩
   cases t with
   | nil=>exact h.elim
   | cons i t=>
    obtain⟨h1,h2,h3⟩:=h
    refine⟨i.toNat,by omega,tD.2 ⟨t,?_,h3⟩⟩
    rw[od h1]
    simp
theorem DC.len:∀{r t:List Int},DC r t→t.length=r.length
 | [],[],_=>rfl
 | _::r,_::t,h=>by simp only[bA,h.2.2.len]
 | [],_::_,h=>h.elim
 | _::_,[],h=>h.elim
theorem DC.at:∀{r t:List Int},DC r t→∀i,i<r.length→0≤t.getD i 0∧t.getD i 0<r.getD i 0
 | _::r,_::t,h,0,_=>⟨h.1,h.2.1⟩
 | _::r,_::t,h,i+1,hi=>by
  have:=h.2.2.at i (by simpa using hi)
  simpa using this
 | [],_,_,_,hi=>by simp at hi
 | _::_,[],h,_,_=>h.elim
theorem DC.of:∀{r t:List Int},t.length=r.length→(∀i,i<r.length→0≤t.getD i 0∧t.getD i 0<r.getD i 0)→DC r t
 | [],[],_,_=>trivial
 | n::r,i::t,hl,h=>by
  refine⟨(h 0 (by simp)).1,(h 0 (by simp)).2,DC.of (by simpa using hl) fun j hj=>?_⟩
  have:=h (j+1) (by simpa using hj)
  simpa using this
 | [],_::_,h,_=>by simp at h
 | _::_,[],h,_=>by simp at h
def sat (p:bu) (q:List Int):Bool:=p.Rows.all fun r=>decide (0≤dR r q)
def qA (p:bu):List (List Int):=(ext p.aU []).filter (sat p)
theorem H6 {p:bu}(g:Good p){x:List Int}(hx:ku x) (hl:x.length=p.aU.length){k:Nat}(hk:k≤p.aU.length) (h:(p.Rows.any fun r=>decide (oS r p x k<0))=true):(ext (p.aU.drop k) (x.take k)).filter (sat p)=[]:=by
 rw[List.filter_eq_nil_iff]
 intro q hq hs
 obtain⟨t,rfl,ht⟩:=tD.1 hq
 obtain⟨r,hr,h0⟩:=List.any_eq_true.1 h
 have h0:oS r p x k<0:=by simpa using h0
 have h1:=dM.1 hs r hr
 have h1:0≤dR r (x.take k++t):=by simpa using h1
 have hlen:=(g.row r hr).1
 have:dR r (x.take k++t)≤oS r p x k:=by
  unfold dR oS
  refine Int.add_le_add (Int.le_refl _) (zW fun i hi=>?_)
  have hc:=(g.row r hr).2.2 _ (lV hi)
  unfold zl
  by_cases hik:i<k
  ·rw[if_pos hik]
   have:(x.take k++t).getD i 0=x.getD i 0:=by
    rw[aE,aE,cH (by rw[aX];omega),List.getElem?_take_of_lt hik]
   rw[this]
   exact Int.le_refl _
  ·rw[if_neg hik]
   have e:(x.take k++t).getD i 0=t.getD (i-k) 0:=by
    rw[aE,aE,cV (by rw[aX];omega),aX,dy (by omega)]
   have e2:(p.aU.drop k).getD (i-k) 0=p.aU.getD i 0:=by
    rw[aE,aE,bj,show k+(i-k)=i by omega]
   have h2:=ht.at (i-k) (by rw[cr];omega)
   rw[e2] at h2
   rw[e]
   split
   ·rename_i hpos
    exact Int.mul_le_mul_of_nonneg_left (by omega) (by omega)
   ·rename_i hneg
    exact Int.mul_nonpos_of_nonpos_of_nonneg (by omega) h2.1
 omega
theorem H7 {p:bu}(g:Good p){x:List Int}(hl:x.length=p.aU.length):(p.Rows.any fun r=>decide (oS r p x p.aU.length<0))=!(sat p x):=by
 unfold sat
 rw[List.not_all_eq_any_not]
 have:∀l:List aO,(∀r∈l,r∈p.Rows)→(l.any fun r=>decide (oS r p x p.aU.length<0))=l.any fun r=>!decide (0≤dR r x):=by
  intro l
  induction l with
  | nil=>intro _;rfl
  | cons r l ih=>
   intro h
   have hr:=h r (au ..)
   have e:oS r p x p.aU.length=dR r x:=by
    unfold oS dR
    congr 1
    exact KC fun i hi=>by unfold zl;rw[if_pos (by rw[←(g.row r hr).1];exact hi)]
   rw[List.any_cons,List.any_cons,ih fun r hr=>h r (ao _ hr),e]
   congr 1
   rw[Bool.eq_iff_iff]
   simp
 exact this p.Rows fun _ h=>h
end Go.DN
