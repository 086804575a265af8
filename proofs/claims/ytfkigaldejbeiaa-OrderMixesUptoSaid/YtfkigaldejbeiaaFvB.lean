/-
  Points: the plain law: sums, bounds, the points of a box.
-/
import Derived.Test.YtfkigaldejbeiaaFvA
set_option linter.unusedSectionVars false
set_option linter.unusedSimpArgs false
set_option linter.unusedVariables false
namespace Go.DN
open Go.AM
set_option linter.unusedVariables false
structure Good (p:bp):Prop where
 len:p.ba.length≤4
 box:∀x∈p.ba,0≤x∧x≤4096
 prod:zG 1 p.ba≤4096
 rows:p.Rows.length≤8
 row:∀r∈p.Rows,r.cZ.length=p.ba.length∧(-1048576≤r.Const∧r.Const≤1048576)∧∀c∈r.cZ,-1048576≤c∧c≤1048576
theorem Ce {v:Int}:∀{l:List aT},sO v l=0→∀r∈l,fL r v=0
 | [],_,_,h=>by cases h
 | x::l,e,r,h=>by
  simp only[sO] at e
  split at e
  ·contradiction
  ·rename_i h1
   rcases aX.1 h with rfl | h
   ·simpa using h1
   ·exact Ce e r h
theorem xJ {c:Int}(h:vt c=false):-1048576≤c∧c≤1048576:=by
 simp[vt] at h;omega
theorem Jv {p:bp}(h:mM p=0):Good p:=by
 unfold mM at h
 split at h
 ·cases h
 ·split at h
  ·cases h
  ·split at h
   ·cases h
   ·split at h
    ·cases h
    ·rename_i h1 h2 h3 h4
     refine⟨by omega,fun x hx=>?_,by omega,by omega,fun r hr=>?_⟩
     ·have:=mr.1 (by simpa using h2) x hx
      simp[Ea] at this
      omega
     ·have:=Ce h r hr
      unfold fL at this
      split at this
      ·cases this
      ·split at this
       ·cases this
       ·rename_i h5 h6
        rw[Bool.not_eq_true,bE] at h6
        refine⟨by omega,xJ h6.1,fun c hc=>xJ ?_⟩
        have:=mr.1 h6.2 c hc
        simpa using this
def lB (t:Nat→Int):Nat→Int
 | 0=>0
 | n+1=>lB t n+t n
theorem zC {t u:Nat→Int}:∀{n:Nat},(∀i,i<n→t i≤u i)→lB t n≤lB u n
 | 0,_=>Int.le_refl _
 | n+1,h=>Int.add_le_add (zC fun i hi=>h i (by omega)) (h n (by omega))
theorem J7 {t u:Nat→Int}{n:Nat}(h:∀i,i<n→t i=u i):lB t n=lB u n:=
 Int.le_antisymm (zC fun i hi=>Int.le_of_eq (h i hi)) (zC fun i hi=>Int.le_of_eq (h i hi).symm)
theorem Gi {t:Nat→Int}:∀{n:Nat},(∀i,i<n→-4294967296≤t i∧t i≤4294967296)→-(4294967296*(n:Int))≤lB t n∧lB t n≤4294967296*(n:Int)
 | 0,_=>by simp[lB]
 | n+1,h=>by
  have h1:=Gi (n:=n) fun i hi=>h i (by omega)
  have h2:=h n (by omega)
  simp only[lB]
  omega
theorem Gg (body:Int×Int→Option (Int×Int⊕Int)) (t:Nat→Int) (N:Nat) (c:Int) (hN:N≤4) (hc:-1048576≤c∧c≤1048576) (ht:∀k,k<N→-4294967296≤t k∧t k≤4294967296)
  (hstep:∀(k:Nat) (n:Int),k<N→-1125899906842624≤n→n≤1125899906842624→body (n,(k:Int))=some (.inl (n+t k,((k+1:Nat):Int)))) (hend:∀n,body (n,(N:Int))=some (.inr n)) (fu:Nat) (hf:10<fu):
  aB body fu (c,0)=some (c+lB t N):=by
 have key:∀(m k aJ:Nat),k+m=N→m<aJ→aB body aJ (c+lB t k,(k:Int))=some (c+lB t N):=by
  intro m
  induction m with
  | zero=>
   intro k aJ h1 h2
   obtain⟨aJ,rfl⟩:∃f,aJ=f+1:=⟨aJ-1,by omega⟩
   have:k=N:=by omega
   subst this
   simp only[aB,hend]
  | succ m ih=>
   intro k aJ h1 h2
   obtain⟨aJ,rfl⟩:∃f,aJ=f+1:=⟨aJ-1,by omega⟩
   have h3:=Gi (n:=k) fun i hi=>ht i (by omega)
   simp only[aB,hstep k (c+lB t k) (by omega) (by omega) (by omega)]
   rw[show c+lB t k+t k=c+lB t (k+1) by simp only[lB];omega]
   exact ih (k+1) aJ (by omega) (by omega)
 have:=key N 0 fu (by omega) (by omega)
 simpa[lB] using this
theorem Hc {c x:Int}(hc:-1048576≤c∧c≤1048576) (hx:-4096≤x∧x≤4096):-4294967296≤c*x∧c*x≤4294967296:=by
 have h1:c.natAbs≤1048576:=by omega
 have h2:x.natAbs≤4096:=by omega
 have h3:=Nat.mul_le_mul h1 h2
 rw[←Int.natAbs_mul] at h3
 omega
def ei (r:aT) (x:List Int):Int:=r.Const+lB (fun i=>r.cZ.getD i 0*x.getD i 0) r.cZ.length
def yT (r:aT) (p:bp) (x:List Int) (k i:Nat):Int:=if i<k then r.cZ.getD i 0*x.getD i 0 else if r.cZ.getD i 0>0 then r.cZ.getD i 0*(p.ba.getD i 0-1) else 0
def oK (r:aT) (p:bp) (x:List Int) (k:Nat):Int:=r.Const+lB (yT r p x k) r.cZ.length
theorem fq {l:List Int}{i:Nat}(h:i<l.length):l[i]?=some (l.getD i 0):=by
 rw[aM,ag h];rfl
theorem lP {l:List Int}{i:Nat}(h:i<l.length):l.getD i 0∈l:=ar (fq h)
def kn (x:List Int):Prop:=∀y∈x,0≤y∧y≤4096
theorem BP {p:bp}(g:Good p){r:aT}(hr:r∈p.Rows){x:List Int}(hx:kn x) (hl:x.length=p.ba.length):∀k,k<r.cZ.length→-4294967296≤r.cZ.getD k 0*x.getD k 0∧r.cZ.getD k 0*x.getD k 0≤4294967296:=fun k hk=>by
 have h1:=(g.row r hr).2.2 _ (lP hk)
 have h2:=hx _ (lP (l:=x) (i:=k) (by rw[hl,←(g.row r hr).1];exact hk))
 exact Hc h1 ⟨by omega,by omega⟩
theorem Ll (fu:Nat){p:bp}(g:Good p){r:aT}(hr:r∈p.Rows){x:List Int}(hx:kn x) (hl:x.length=p.ba.length) (hf:10<fu):F.pf fu r x=some (ei r x):=by
 have hlen:=(g.row r hr).1
 have h4:=g.len
 have:=Gg (F.pF fu r x) (fun i=>r.cZ.getD i 0*x.getD i 0) r.cZ.length r.Const (by omega) (g.row r hr).2.1 (BP g hr hx hl)
  (fun k n hk h0 h1=>by
   have ht:=BP g hr hx hl k hk
   have hw:IntKind.i64.wrap ((k:Int)+1)=((k+1:Nat):Int):=du hk (by omega)
   have hd:decide ((k:Int)<(r.cZ.length:Int))=true:=by simp;omega
   simp only[F.pF,hd,cond_true,bJ (fq hk),bJ (fq (l:=x) (i:=k) (by omega)),ae,hw]
   rw[i64 (n:=r.cZ.getD k 0*x.getD k 0) (by omega) (by omega),i64 (by omega) (by omega)])
  (fun n=>by simp only[F.pF,fg,cond_false]) fu hf
 simp only[F.pf,this,ae]
 rfl
theorem EW {p:bp}(g:Good p){r:aT}(hr:r∈p.Rows){x:List Int}(hx:kn x) (hl:x.length=p.ba.length) (k:Nat):∀i,i<r.cZ.length→-4294967296≤yT r p x k i∧yT r p x k i≤4294967296:=fun i hi=>by
 have h1:=(g.row r hr).2.2 _ (lP hi)
 have h2:=BP g hr hx hl i hi
 have h3:=g.box _ (lP (l:=p.ba) (i:=i) (by rw[←(g.row r hr).1];exact hi))
 unfold yT
 split
 ·exact h2
 ·split
  ·exact Hc h1 ⟨by omega,by omega⟩
  ·omega
theorem Au (fu:Nat){p:bp}(g:Good p){x:List Int}(hx:kn x) (hl:x.length=p.ba.length) (k:Nat) (hf:10<fu):F.kI fu p x k=some (p.Rows.any fun r=>decide (oK r p x k<0)):=by
 have h4:=g.len
 have h8:=g.rows
 have hloop:=jQ (body:=F.kH fu p x k) p.Rows (fun (_:Unit) i=>i)
  (fun _ r=>cond (decide (oK r p x k<0)) (some (.inr (Ex.ret true))) (some (.inl ()))) (fun _=>Ex.dS ())
  (fun z j r hr=>by
   have hw:=du (eU hr) (by omega)
   have hm:=ar hr
   have hlen:=(g.row r hm).1
   have hs:=Gg (F.jd fu p x k r) (yT r p x k) r.cZ.length r.Const (by omega) (g.row r hm).2.1 (EW g hm hx hl k)
    (fun i n hi h0 h1=>by
     have ht:=EW g hm hx hl k i hi
     have hw:IntKind.i64.wrap ((i:Int)+1)=((i+1:Nat):Int):=du hi (by omega)
     have hd:decide ((i:Int)<(r.cZ.length:Int))=true:=by simp;omega
     have hbx:=g.box _ (lP (l:=p.ba) (i:=i) (by omega))
     simp only[F.jd,hd,cond_true,bJ (fq hi),ae,hw]
     unfold yT at ht⊢
     by_cases hik:i<k
     ·have hd2:decide ((i:Int)<(k:Int))=true:=by simp;omega
      rw[if_pos hik] at ht⊢
      simp only[hd2,cond_true,bJ (fq (l:=x) (i:=i) (by omega)),ae]
      rw[i64 (n:=r.cZ.getD i 0*x.getD i 0) (by omega) (by omega),i64 (by omega) (by omega)]
     ·have hd2:decide ((i:Int)<(k:Int))=false:=by simp;omega
      rw[if_neg hik] at ht⊢
      simp only[hd2,cond_false]
      by_cases hpos:r.cZ.getD i 0>0
      ·rw[if_pos hpos] at ht⊢
       have hd3:decide (r.cZ.getD i 0>0)=true:=by simpa using hpos
       simp only[hd3,cond_true,ae,bJ (fq (l:=p.ba) (i:=i) (by omega)),ae]
       rw[i64 (n:=p.ba.getD i 0-1) (by omega) (by omega),i64 (n:=r.cZ.getD i 0*(p.ba.getD i 0-1)) (by omega) (by omega),i64 (by omega) (by omega)]
      ·rw[if_neg hpos] at ht⊢
       have hd3:decide (r.cZ.getD i 0>0)=false:=by simpa using hpos
       simp only[hd3,cond_false,ae,Int.add_zero])
    (fun n=>by simp only[F.jd,fg,cond_false]) fu hf
   have hs2:aB (F.jd fu p x k r) fu (r.Const,0)=some (oK r p x k):=hs
   simp only[F.kH,dec_lt hr,cond_true,bJ hr,ae,hw,hs2]
   rcases fH (decide (oK r p x k<0)) with h | h <;> simp only[h,cond_true,cond_false] <;> rfl)
  (fun n=>by simp only[F.kH,fg,cond_false]) fu (by omega) ()
 simp only[F.kI,hloop,BS]
 rcases fH (p.Rows.any fun r=>decide (oK r p x k<0)) with h | h <;> simp[h,eS]
def ext:List Int→List Int→List (List Int)
 | [],pre=>[pre]
 | n::r,pre=>(List.range n.toNat).flatMap fun (i:Nat)=>ext r (pre++[(i:Int)])
def Dh:List Int→List Int→Prop
 | [],[]=>True
 | n::r,i::t=>0≤i∧i<n∧Dh r t
 | _,_=>False
theorem zN:∀{r pre q:List Int},q∈ext r pre↔∃t,q=pre++t∧Dh r t
 | [],pre,q=>by
  simp only[ext,cC]
  constructor
  ·rintro rfl;exact⟨[],by simp,trivial⟩
  ·rintro⟨t,rfl,h⟩
   cases t with
   | nil=>simp
   | cons _ _=>exact h.elim
 | n::r,pre,q=>by
  simp only[ext,hZ,List.mem_range]
  constructor
  ·rintro⟨i,hi,h⟩
   obtain⟨t,rfl,ht⟩:=zN.1 h
   exact⟨(i:Int)::t,by simp,by omega,by omega,ht⟩
  ·rintro⟨t,rfl,h⟩
   cases t with
   | nil=>exact h.elim
   | cons i t=>
    obtain⟨h1,h2,h3⟩:=h
    refine⟨i.toNat,by omega,zN.2 ⟨t,?_,h3⟩⟩
    rw[nY h1]
    simp
theorem Dh.len:∀{r t:List Int},Dh r t→t.length=r.length
 | [],[],_=>rfl
 | _::r,_::t,h=>by simp only[bN,h.2.2.len]
 | [],_::_,h=>h.elim
 | _::_,[],h=>h.elim
theorem Dh.at:∀{r t:List Int},Dh r t→∀i,i<r.length→0≤t.getD i 0∧t.getD i 0<r.getD i 0
 | _::r,_::t,h,0,_=>⟨h.1,h.2.1⟩
 | _::r,_::t,h,i+1,hi=>by
  have:=h.2.2.at i (by simpa using hi)
  simpa using this
 | [],_,_,_,hi=>by simp at hi
 | _::_,[],h,_,_=>h.elim
theorem Dh.of:∀{r t:List Int},t.length=r.length→(∀i,i<r.length→0≤t.getD i 0∧t.getD i 0<r.getD i 0)→Dh r t
 | [],[],_,_=>trivial
 | n::r,i::t,hl,h=>by
  refine⟨(h 0 (by simp)).1,(h 0 (by simp)).2,Dh.of (by simpa using hl) fun j hj=>?_⟩
  have:=h (j+1) (by simpa using hj)
  simpa using this
 | [],_::_,h,_=>by simp at h
 | _::_,[],h,_=>by simp at h
def sat (p:bp) (q:List Int):Bool:=p.Rows.all fun r=>decide (0≤ei r q)
def qs (p:bp):List (List Int):=(ext p.ba []).filter (sat p)
theorem HM {p:bp}(g:Good p){x:List Int}(hx:kn x) (hl:x.length=p.ba.length){k:Nat}(hk:k≤p.ba.length) (h:(p.Rows.any fun r=>decide (oK r p x k<0))=true):(ext (p.ba.drop k) (x.take k)).filter (sat p)=[]:=by
 rw[List.filter_eq_nil_iff]
 intro q hq hs
 obtain⟨t,rfl,ht⟩:=zN.1 hq
 obtain⟨r,hr,h0⟩:=List.any_eq_true.1 h
 have h0:oK r p x k<0:=by simpa using h0
 have h1:=dJ.1 hs r hr
 have h1:0≤ei r (x.take k++t):=by simpa using h1
 have hlen:=(g.row r hr).1
 have:ei r (x.take k++t)≤oK r p x k:=by
  unfold ei oK
  refine Int.add_le_add (Int.le_refl _) (zC fun i hi=>?_)
  have hc:=(g.row r hr).2.2 _ (lP hi)
  unfold yT
  by_cases hik:i<k
  ·rw[if_pos hik]
   have:(x.take k++t).getD i 0=x.getD i 0:=by
    rw[aM,aM,cG (by rw[aV];omega),List.getElem?_take_of_lt hik]
   rw[this]
   exact Int.le_refl _
  ·rw[if_neg hik]
   have e:(x.take k++t).getD i 0=t.getD (i-k) 0:=by
    rw[aM,aM,cS (by rw[aV];omega),aV,dt (by omega)]
   have e2:(p.ba.drop k).getD (i-k) 0=p.ba.getD i 0:=by
    rw[aM,aM,bi,show k+(i-k)=i by omega]
   have h2:=ht.at (i-k) (by rw[cp];omega)
   rw[e2] at h2
   rw[e]
   split
   ·rename_i hpos
    exact Int.mul_le_mul_of_nonneg_left (by omega) (by omega)
   ·rename_i hneg
    exact Int.mul_nonpos_of_nonpos_of_nonneg (by omega) h2.1
 omega
theorem HN {p:bp}(g:Good p){x:List Int}(hl:x.length=p.ba.length):(p.Rows.any fun r=>decide (oK r p x p.ba.length<0))=!(sat p x):=by
 unfold sat
 rw[List.not_all_eq_any_not]
 have:∀l:List aT,(∀r∈l,r∈p.Rows)→(l.any fun r=>decide (oK r p x p.ba.length<0))=l.any fun r=>!decide (0≤ei r x):=by
  intro l
  induction l with
  | nil=>intro _;rfl
  | cons r l ih=>
   intro h
   have hr:=h r (av ..)
   have e:oK r p x p.ba.length=ei r x:=by
    unfold oK ei
    congr 1
    exact J7 fun i hi=>by unfold yT;rw[if_pos (by rw[←(g.row r hr).1];exact hi)]
   rw[List.any_cons,List.any_cons,ih fun r hr=>h r (ao _ hr),e]
   congr 1
   rw[Bool.eq_iff_iff]
   simp
 exact this p.Rows fun _ h=>h
end Go.DN
