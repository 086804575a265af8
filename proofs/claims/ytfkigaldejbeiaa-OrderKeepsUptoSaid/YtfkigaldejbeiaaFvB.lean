/-
  Points: the plain law: sums, bounds, the points of a box.
-/
import Derived.Test.YtfkigaldejbeiaaFvA
set_option linter.unusedSectionVars false
set_option linter.unusedSimpArgs false
set_option linter.unusedVariables false
namespace Go.DN
open Go.AM
set_option linter.unusedVariables false
structure Good (p:bp):Prop where
 len:p.ba.length≤4
 box:∀x∈p.ba,0≤x∧x≤4096
 prod:zl 1 p.ba≤4096
 rows:p.Rows.length≤8
 row:∀r∈p.Rows,r.cZ.length=p.ba.length∧(-1048576≤r.Const∧r.Const≤1048576)∧∀c∈r.cZ,-1048576≤c∧c≤1048576
theorem BT {v:Int}:∀{l:List aS},sv v l=0→∀r∈l,fK r v=0
 | [],_,_,h=>by cases h
 | x::l,e,r,h=>by
  simp only[sv] at e
  split at e
  ·contradiction
  ·rename_i h1
   rcases aX.1 h with rfl | h
   ·simpa using h1
   ·exact BT e r h
theorem xt {c:Int}(h:u6 c=false):-1048576≤c∧c≤1048576:=by
 simp[u6] at h;omega
theorem I3 {p:bp}(h:mI p=0):Good p:=by
 unfold mI at h
 split at h
 ·cases h
 ·split at h
  ·cases h
  ·split at h
   ·cases h
   ·split at h
    ·cases h
    ·rename_i h1 h2 h3 h4
     refine⟨by omega,fun x hx=>?_,by omega,by omega,fun r hr=>?_⟩
     ·have:=mo.1 (by simpa using h2) x hx
      simp[DL] at this
      omega
     ·have:=BT h r hr
      unfold fK at this
      split at this
      ·cases this
      ·split at this
       ·cases this
       ·rename_i h5 h6
        rw[Bool.not_eq_true,bD] at h6
        refine⟨by omega,xt h6.1,fun c hc=>xt ?_⟩
        have:=mo.1 h6.2 c hc
        simpa using this
def lz (t:Nat→Int):Nat→Int
 | 0=>0
 | n+1=>lz t n+t n
theorem zh {t u:Nat→Int}:∀{n:Nat},(∀i,i<n→t i≤u i)→lz t n≤lz u n
 | 0,_=>Int.le_refl _
 | n+1,h=>Int.add_le_add (zh fun i hi=>h i (by omega)) (h n (by omega))
theorem JD {t u:Nat→Int}{n:Nat}(h:∀i,i<n→t i=u i):lz t n=lz u n:=
 Int.le_antisymm (zh fun i hi=>Int.le_of_eq (h i hi)) (zh fun i hi=>Int.le_of_eq (h i hi).symm)
theorem FO {t:Nat→Int}:∀{n:Nat},(∀i,i<n→-4294967296≤t i∧t i≤4294967296)→-(4294967296*(n:Int))≤lz t n∧lz t n≤4294967296*(n:Int)
 | 0,_=>by simp[lz]
 | n+1,h=>by
  have h1:=FO (n:=n) fun i hi=>h i (by omega)
  have h2:=h n (by omega)
  simp only[lz]
  omega
theorem FN (body:Int×Int→Option (Int×Int⊕Int)) (t:Nat→Int) (N:Nat) (c:Int) (hN:N≤4) (hc:-1048576≤c∧c≤1048576) (ht:∀k,k<N→-4294967296≤t k∧t k≤4294967296)
  (hstep:∀(k:Nat) (n:Int),k<N→-1125899906842624≤n→n≤1125899906842624→body (n,(k:Int))=some (.inl (n+t k,((k+1:Nat):Int)))) (hend:∀n,body (n,(N:Int))=some (.inr n)) (fu:Nat) (hf:10<fu):
  aB body fu (c,0)=some (c+lz t N):=by
 have key:∀(m k aI:Nat),k+m=N→m<aI→aB body aI (c+lz t k,(k:Int))=some (c+lz t N):=by
  intro m
  induction m with
  | zero=>
   intro k aI h1 h2
   obtain⟨aI,rfl⟩:∃f,aI=f+1:=⟨aI-1,by omega⟩
   have:k=N:=by omega
   subst this
   simp only[aB,hend]
  | succ m ih=>
   intro k aI h1 h2
   obtain⟨aI,rfl⟩:∃f,aI=f+1:=⟨aI-1,by omega⟩
   have h3:=FO (n:=k) fun i hi=>ht i (by omega)
   simp only[aB,hstep k (c+lz t k) (by omega) (by omega) (by omega)]
   rw[show c+lz t k+t k=c+lz t (k+1) by simp only[lz];omega]
   exact ih (k+1) aI (by omega) (by omega)
 have:=key N 0 fu (by omega) (by omega)
 simpa[lz] using this
theorem GF {c x:Int}(hc:-1048576≤c∧c≤1048576) (hx:-4096≤x∧x≤4096):-4294967296≤c*x∧c*x≤4294967296:=by
 have h1:c.natAbs≤1048576:=by omega
 have h2:x.natAbs≤4096:=by omega
 have h3:=Nat.mul_le_mul h1 h2
 rw[←Int.natAbs_mul] at h3
 omega
def ei (r:aS) (x:List Int):Int:=r.Const+lz (fun i=>r.cZ.getD i 0*x.getD i 0) r.cZ.length
def yz (r:aS) (p:bp) (x:List Int) (k i:Nat):Int:=if i<k then r.cZ.getD i 0*x.getD i 0 else if r.cZ.getD i 0>0 then r.cZ.getD i 0*(p.ba.getD i 0-1) else 0
def oE (r:aS) (p:bp) (x:List Int) (k:Nat):Int:=r.Const+lz (yz r p x k) r.cZ.length
theorem fp {l:List Int}{i:Nat}(h:i<l.length):l[i]?=some (l.getD i 0):=by
 rw[aL,ag h];rfl
theorem lN {l:List Int}{i:Nat}(h:i<l.length):l.getD i 0∈l:=ar (fp h)
def kl (x:List Int):Prop:=∀y∈x,0≤y∧y≤4096
theorem Bn {p:bp}(g:Good p){r:aS}(hr:r∈p.Rows){x:List Int}(hx:kl x) (hl:x.length=p.ba.length):∀k,k<r.cZ.length→-4294967296≤r.cZ.getD k 0*x.getD k 0∧r.cZ.getD k 0*x.getD k 0≤4294967296:=fun k hk=>by
 have h1:=(g.row r hr).2.2 _ (lN hk)
 have h2:=hx _ (lN (l:=x) (i:=k) (by rw[hl,←(g.row r hr).1];exact hk))
 exact GF h1 ⟨by omega,by omega⟩
theorem KT (fu:Nat){p:bp}(g:Good p){r:aS}(hr:r∈p.Rows){x:List Int}(hx:kl x) (hl:x.length=p.ba.length) (hf:10<fu):F.oX fu r x=some (ei r x):=by
 have hlen:=(g.row r hr).1
 have h4:=g.len
 have:=FN (F.pu fu r x) (fun i=>r.cZ.getD i 0*x.getD i 0) r.cZ.length r.Const (by omega) (g.row r hr).2.1 (Bn g hr hx hl)
  (fun k n hk h0 h1=>by
   have ht:=Bn g hr hx hl k hk
   have hw:IntKind.i64.wrap ((k:Int)+1)=((k+1:Nat):Int):=du hk (by omega)
   have hd:decide ((k:Int)<(r.cZ.length:Int))=true:=by simp;omega
   simp only[F.pu,hd,cond_true,bJ (fp hk),bJ (fp (l:=x) (i:=k) (by omega)),ab,hw]
   rw[i64 (n:=r.cZ.getD k 0*x.getD k 0) (by omega) (by omega),i64 (by omega) (by omega)])
  (fun n=>by simp only[F.pu,ff,cond_false]) fu hf
 simp only[F.oX,this,ab]
 rfl
theorem Ev {p:bp}(g:Good p){r:aS}(hr:r∈p.Rows){x:List Int}(hx:kl x) (hl:x.length=p.ba.length) (k:Nat):∀i,i<r.cZ.length→-4294967296≤yz r p x k i∧yz r p x k i≤4294967296:=fun i hi=>by
 have h1:=(g.row r hr).2.2 _ (lN hi)
 have h2:=Bn g hr hx hl i hi
 have h3:=g.box _ (lN (l:=p.ba) (i:=i) (by rw[←(g.row r hr).1];exact hi))
 unfold yz
 split
 ·exact h2
 ·split
  ·exact GF h1 ⟨by omega,by omega⟩
  ·omega
theorem Aa (fu:Nat){p:bp}(g:Good p){x:List Int}(hx:kl x) (hl:x.length=p.ba.length) (k:Nat) (hf:10<fu):F.kG fu p x k=some (p.Rows.any fun r=>decide (oE r p x k<0)):=by
 have h4:=g.len
 have h8:=g.rows
 have hloop:=jO (body:=F.kF fu p x k) p.Rows (fun (_:Unit) i=>i)
  (fun _ r=>cond (decide (oE r p x k<0)) (some (.inr (Ex.ret true))) (some (.inl ()))) (fun _=>Ex.dS ())
  (fun z j r hr=>by
   have hw:=du (eT hr) (by omega)
   have hm:=ar hr
   have hlen:=(g.row r hm).1
   have hs:=FN (F.ja fu p x k r) (yz r p x k) r.cZ.length r.Const (by omega) (g.row r hm).2.1 (Ev g hm hx hl k)
    (fun i n hi h0 h1=>by
     have ht:=Ev g hm hx hl k i hi
     have hw:IntKind.i64.wrap ((i:Int)+1)=((i+1:Nat):Int):=du hi (by omega)
     have hd:decide ((i:Int)<(r.cZ.length:Int))=true:=by simp;omega
     have hbx:=g.box _ (lN (l:=p.ba) (i:=i) (by omega))
     simp only[F.ja,hd,cond_true,bJ (fp hi),ab,hw]
     unfold yz at ht⊢
     by_cases hik:i<k
     ·have hd2:decide ((i:Int)<(k:Int))=true:=by simp;omega
      rw[if_pos hik] at ht⊢
      simp only[hd2,cond_true,bJ (fp (l:=x) (i:=i) (by omega)),ab]
      rw[i64 (n:=r.cZ.getD i 0*x.getD i 0) (by omega) (by omega),i64 (by omega) (by omega)]
     ·have hd2:decide ((i:Int)<(k:Int))=false:=by simp;omega
      rw[if_neg hik] at ht⊢
      simp only[hd2,cond_false]
      by_cases hpos:r.cZ.getD i 0>0
      ·rw[if_pos hpos] at ht⊢
       have hd3:decide (r.cZ.getD i 0>0)=true:=by simpa using hpos
       simp only[hd3,cond_true,ab,bJ (fp (l:=p.ba) (i:=i) (by omega)),ab]
       rw[i64 (n:=p.ba.getD i 0-1) (by omega) (by omega),i64 (n:=r.cZ.getD i 0*(p.ba.getD i 0-1)) (by omega) (by omega),i64 (by omega) (by omega)]
      ·rw[if_neg hpos] at ht⊢
       have hd3:decide (r.cZ.getD i 0>0)=false:=by simpa using hpos
       simp only[hd3,cond_false,ab,Int.add_zero])
    (fun n=>by simp only[F.ja,ff,cond_false]) fu hf
   have hs2:aB (F.ja fu p x k r) fu (r.Const,0)=some (oE r p x k):=hs
   simp only[F.kF,dec_lt hr,cond_true,bJ hr,ab,hw,hs2]
   rcases fG (decide (oE r p x k<0)) with h | h <;> simp only[h,cond_true,cond_false] <;> rfl)
  (fun n=>by simp only[F.kF,ff,cond_false]) fu (by omega) ()
 simp only[F.kG,hloop,Bp]
 rcases fG (p.Rows.any fun r=>decide (oE r p x k<0)) with h | h <;> simp[h,eR]
def ext:List Int→List Int→List (List Int)
 | [],pre=>[pre]
 | n::r,pre=>(List.range n.toNat).flatMap fun (i:Nat)=>ext r (pre++[(i:Int)])
def CQ:List Int→List Int→Prop
 | [],[]=>True
 | n::r,i::t=>0≤i∧i<n∧CQ r t
 | _,_=>False
theorem zt:∀{r pre q:List Int},q∈ext r pre↔∃t,q=pre++t∧CQ r t
 | [],pre,q=>by
  simp only[ext,cB]
  constructor
  ·rintro rfl;exact⟨[],by simp,trivial⟩
  ·rintro⟨t,rfl,h⟩
   cases t with
   | nil=>simp
   | cons _ _=>exact h.elim
 | n::r,pre,q=>by
  simp only[ext,g7,List.mem_range]
  constructor
  ·rintro⟨i,hi,h⟩
   obtain⟨t,rfl,ht⟩:=zt.1 h
   exact⟨(i:Int)::t,by simp,by omega,by omega,ht⟩
  ·rintro⟨t,rfl,h⟩
   cases t with
   | nil=>exact h.elim
   | cons i t=>
    obtain⟨h1,h2,h3⟩:=h
    refine⟨i.toNat,by omega,zt.2 ⟨t,?_,h3⟩⟩
    rw[nT h1]
    simp
theorem CQ.len:∀{r t:List Int},CQ r t→t.length=r.length
 | [],[],_=>rfl
 | _::r,_::t,h=>by simp only[bN,h.2.2.len]
 | [],_::_,h=>h.elim
 | _::_,[],h=>h.elim
theorem CQ.at:∀{r t:List Int},CQ r t→∀i,i<r.length→0≤t.getD i 0∧t.getD i 0<r.getD i 0
 | _::r,_::t,h,0,_=>⟨h.1,h.2.1⟩
 | _::r,_::t,h,i+1,hi=>by
  have:=h.2.2.at i (by simpa using hi)
  simpa using this
 | [],_,_,_,hi=>by simp at hi
 | _::_,[],h,_,_=>h.elim
theorem CQ.of:∀{r t:List Int},t.length=r.length→(∀i,i<r.length→0≤t.getD i 0∧t.getD i 0<r.getD i 0)→CQ r t
 | [],[],_,_=>trivial
 | n::r,i::t,hl,h=>by
  refine⟨(h 0 (by simp)).1,(h 0 (by simp)).2,CQ.of (by simpa using hl) fun j hj=>?_⟩
  have:=h (j+1) (by simpa using hj)
  simpa using this
 | [],_::_,h,_=>by simp at h
 | _::_,[],h,_=>by simp at h
def sat (p:bp) (q:List Int):Bool:=p.Rows.all fun r=>decide (0≤ei r q)
def qh (p:bp):List (List Int):=(ext p.ba []).filter (sat p)
theorem Hl {p:bp}(g:Good p){x:List Int}(hx:kl x) (hl:x.length=p.ba.length){k:Nat}(hk:k≤p.ba.length) (h:(p.Rows.any fun r=>decide (oE r p x k<0))=true):(ext (p.ba.drop k) (x.take k)).filter (sat p)=[]:=by
 rw[List.filter_eq_nil_iff]
 intro q hq hs
 obtain⟨t,rfl,ht⟩:=zt.1 hq
 obtain⟨r,hr,h0⟩:=List.any_eq_true.1 h
 have h0:oE r p x k<0:=by simpa using h0
 have h1:=dJ.1 hs r hr
 have h1:0≤ei r (x.take k++t):=by simpa using h1
 have hlen:=(g.row r hr).1
 have:ei r (x.take k++t)≤oE r p x k:=by
  unfold ei oE
  refine Int.add_le_add (Int.le_refl _) (zh fun i hi=>?_)
  have hc:=(g.row r hr).2.2 _ (lN hi)
  unfold yz
  by_cases hik:i<k
  ·rw[if_pos hik]
   have:(x.take k++t).getD i 0=x.getD i 0:=by
    rw[aL,aL,cF (by rw[aU];omega),List.getElem?_take_of_lt hik]
   rw[this]
   exact Int.le_refl _
  ·rw[if_neg hik]
   have e:(x.take k++t).getD i 0=t.getD (i-k) 0:=by
    rw[aL,aL,cS (by rw[aU];omega),aU,dt (by omega)]
   have e2:(p.ba.drop k).getD (i-k) 0=p.ba.getD i 0:=by
    rw[aL,aL,bi,show k+(i-k)=i by omega]
   have h2:=ht.at (i-k) (by rw[cp];omega)
   rw[e2] at h2
   rw[e]
   split
   ·rename_i hpos
    exact Int.mul_le_mul_of_nonneg_left (by omega) (by omega)
   ·rename_i hneg
    exact Int.mul_nonpos_of_nonpos_of_nonneg (by omega) h2.1
 omega
theorem Hm {p:bp}(g:Good p){x:List Int}(hl:x.length=p.ba.length):(p.Rows.any fun r=>decide (oE r p x p.ba.length<0))=!(sat p x):=by
 unfold sat
 rw[List.not_all_eq_any_not]
 have:∀l:List aS,(∀r∈l,r∈p.Rows)→(l.any fun r=>decide (oE r p x p.ba.length<0))=l.any fun r=>!decide (0≤ei r x):=by
  intro l
  induction l with
  | nil=>intro _;rfl
  | cons r l ih=>
   intro h
   have hr:=h r (av ..)
   have e:oE r p x p.ba.length=ei r x:=by
    unfold oE ei
    congr 1
    exact JD fun i hi=>by unfold yz;rw[if_pos (by rw[←(g.row r hr).1];exact hi)]
   rw[List.any_cons,List.any_cons,ih fun r hr=>h r (ao _ hr),e]
   congr 1
   rw[Bool.eq_iff_iff]
   simp
 exact this p.Rows fun _ h=>h
end Go.DN
