/-
  Points: the plain law: sums, bounds, the points of a box.
-/
import Derived.Test.YtfkigaldejbeiaaFvA
set_option linter.unusedSectionVars false
set_option linter.unusedSimpArgs false
set_option linter.unusedVariables false
namespace Go.DN
open Go.AM
set_option linter.unusedVariables false
structure Good (p:SPoints):Prop where
 len:p.Box.length≤4
 box:∀x∈p.Box,0≤x∧x≤4096
 prod:prodL 1 p.Box≤4096
 rows:p.Rows.length≤8
 row:∀r∈p.Rows,r.Coef.length=p.Box.length∧(-1048576≤r.Const∧r.Const≤1048576)∧∀c∈r.Coef,-1048576≤c∧c≤1048576
theorem rowsW_zero {v:Int}:∀{l:List SRow},rowsW v l=0→∀r∈l,rowW r v=0
 | [],_,_,h=>by cases h
 | x::l,e,r,h=>by
  simp only[rowsW] at e
  split at e
  ·contradiction
  ·rename_i h1
   rcases List.mem_cons.1 h with rfl | h
   ·simpa using h1
   ·exact rowsW_zero e r h
theorem badC_ran {c:Int}(h:badC c=false):-1048576≤c∧c≤1048576:=by
 simp[badC] at h;omega
theorem good_of {p:SPoints}(h:wrongP p=0):Good p:=by
 unfold wrongP at h
 split at h
 ·cases h
 ·split at h
  ·cases h
  ·split at h
   ·cases h
   ·split at h
    ·cases h
    ·rename_i h1 h2 h3 h4
     refine⟨by omega,fun x hx=>?_,by omega,by omega,fun r hr=>?_⟩
     ·have:=List.any_eq_false.1 (by simpa using h2) x hx
      simp[badB] at this
      omega
     ·have:=rowsW_zero h r hr
      unfold rowW at this
      split at this
      ·cases this
      ·split at this
       ·cases this
       ·rename_i h5 h6
        rw[Bool.not_eq_true,Bool.or_eq_false_iff] at h6
        refine⟨by omega,badC_ran h6.1,fun c hc=>badC_ran ?_⟩
        have:=List.any_eq_false.1 h6.2 c hc
        simpa using this
def sumT (t:Nat→Int):Nat→Int
 | 0=>0
 | n+1=>sumT t n+t n
theorem sumT_le {t u:Nat→Int}:∀{n:Nat},(∀i,i<n→t i≤u i)→sumT t n≤sumT u n
 | 0,_=>Int.le_refl _
 | n+1,h=>Int.add_le_add (sumT_le fun i hi=>h i (by omega)) (h n (by omega))
theorem sumT_congr {t u:Nat→Int}{n:Nat}(h:∀i,i<n→t i=u i):sumT t n=sumT u n:=
 Int.le_antisymm (sumT_le fun i hi=>Int.le_of_eq (h i hi)) (sumT_le fun i hi=>Int.le_of_eq (h i hi).symm)
theorem sumT_ran {t:Nat→Int}:∀{n:Nat},(∀i,i<n→-4294967296≤t i∧t i≤4294967296)→-(4294967296*(n:Int))≤sumT t n∧sumT t n≤4294967296*(n:Int)
 | 0,_=>by simp[sumT]
 | n+1,h=>by
  have h1:=sumT_ran (n:=n) fun i hi=>h i (by omega)
  have h2:=h n (by omega)
  simp only[sumT]
  omega
theorem sum_loop (body:Int×Int→Option (Int×Int⊕Int)) (t:Nat→Int) (N:Nat) (c:Int) (hN:N≤4) (hc:-1048576≤c∧c≤1048576) (ht:∀k,k<N→-4294967296≤t k∧t k≤4294967296)
  (hstep:∀(k:Nat) (n:Int),k<N→-1125899906842624≤n→n≤1125899906842624→body (n,(k:Int))=some (.inl (n+t k,((k+1:Nat):Int)))) (hend:∀n,body (n,(N:Int))=some (.inr n)) (fu:Nat) (hf:10<fu):
  loopF body fu (c,0)=some (c+sumT t N):=by
 have key:∀(m k fuel:Nat),k+m=N→m<fuel→loopF body fuel (c+sumT t k,(k:Int))=some (c+sumT t N):=by
  intro m
  induction m with
  | zero=>
   intro k fuel h1 h2
   obtain⟨fuel,rfl⟩:∃f,fuel=f+1:=⟨fuel-1,by omega⟩
   have:k=N:=by omega
   subst this
   simp only[loopF,hend]
  | succ m ih=>
   intro k fuel h1 h2
   obtain⟨fuel,rfl⟩:∃f,fuel=f+1:=⟨fuel-1,by omega⟩
   have h3:=sumT_ran (n:=k) fun i hi=>ht i (by omega)
   simp only[loopF,hstep k (c+sumT t k) (by omega) (by omega) (by omega)]
   rw[show c+sumT t k+t k=c+sumT t (k+1) by simp only[sumT];omega]
   exact ih (k+1) fuel (by omega) (by omega)
 have:=key N 0 fu (by omega) (by omega)
 simpa[sumT] using this
theorem mul_ran2 {c x:Int}(hc:-1048576≤c∧c≤1048576) (hx:-4096≤x∧x≤4096):-4294967296≤c*x∧c*x≤4294967296:=by
 have h1:c.natAbs≤1048576:=by omega
 have h2:x.natAbs≤4096:=by omega
 have h3:=Nat.mul_le_mul h1 h2
 rw[←Int.natAbs_mul] at h3
 omega
def atV (r:SRow) (x:List Int):Int:=r.Const+sumT (fun i=>r.Coef.getD i 0*x.getD i 0) r.Coef.length
def hopT (r:SRow) (p:SPoints) (x:List Int) (k i:Nat):Int:=if i<k then r.Coef.getD i 0*x.getD i 0 else if r.Coef.getD i 0>0 then r.Coef.getD i 0*(p.Box.getD i 0-1) else 0
def hopV (r:SRow) (p:SPoints) (x:List Int) (k:Nat):Int:=r.Const+sumT (hopT r p x k) r.Coef.length
theorem getD_of {l:List Int}{i:Nat}(h:i<l.length):l[i]?=some (l.getD i 0):=by
 rw[List.getD_eq_getElem?_getD,List.getElem?_eq_getElem h];rfl
theorem getD_mem {l:List Int}{i:Nat}(h:i<l.length):l.getD i 0∈l:=List.mem_of_getElem? (getD_of h)
def Ran (x:List Int):Prop:=∀y∈x,0≤y∧y≤4096
theorem at_terms {p:SPoints}(g:Good p){r:SRow}(hr:r∈p.Rows){x:List Int}(hx:Ran x) (hl:x.length=p.Box.length):∀k,k<r.Coef.length→-4294967296≤r.Coef.getD k 0*x.getD k 0∧r.Coef.getD k 0*x.getD k 0≤4294967296:=fun k hk=>by
 have h1:=(g.row r hr).2.2 _ (getD_mem hk)
 have h2:=hx _ (getD_mem (l:=x) (i:=k) (by rw[hl,←(g.row r hr).1];exact hk))
 exact mul_ran2 h1 ⟨by omega,by omega⟩
theorem at_ok (fu:Nat){p:SPoints}(g:Good p){r:SRow}(hr:r∈p.Rows){x:List Int}(hx:Ran x) (hl:x.length=p.Box.length) (hf:10<fu):F.points_At fu r x=some (atV r x):=by
 have hlen:=(g.row r hr).1
 have h4:=g.len
 have:=sum_loop (F.points_At_l1 fu r x) (fun i=>r.Coef.getD i 0*x.getD i 0) r.Coef.length r.Const (by omega) (g.row r hr).2.1 (at_terms g hr hx hl)
  (fun k n hk h0 h1=>by
   have ht:=at_terms g hr hx hl k hk
   have hw:IntKind.i64.wrap ((k:Int)+1)=((k+1:Nat):Int):=wrap_succ hk (by omega)
   have hd:decide ((k:Int)<(r.Coef.length:Int))=true:=by simp;omega
   simp only[F.points_At_l1,hd,cond_true,idx_nat (getD_of hk),idx_nat (getD_of (l:=x) (i:=k) (by omega)),Option.bind_some,hw]
   rw[i64 (n:=r.Coef.getD k 0*x.getD k 0) (by omega) (by omega),i64 (by omega) (by omega)])
  (fun n=>by simp only[F.points_At_l1,dec_end,cond_false]) fu hf
 simp only[F.points_At,this,Option.bind_some]
 rfl
theorem refAt_ok (fu:Nat){p:SPoints}(g:Good p){r:SRow}(hr:r∈p.Rows){x:List Int}(hx:Ran x) (hl:x.length=p.Box.length) (hf:10<fu):F.adjointref9_At fu r x=some (atV r x):=at_ok fu g hr hx hl hf
theorem hop_terms {p:SPoints}(g:Good p){r:SRow}(hr:r∈p.Rows){x:List Int}(hx:Ran x) (hl:x.length=p.Box.length) (k:Nat):∀i,i<r.Coef.length→-4294967296≤hopT r p x k i∧hopT r p x k i≤4294967296:=fun i hi=>by
 have h1:=(g.row r hr).2.2 _ (getD_mem hi)
 have h2:=at_terms g hr hx hl i hi
 have h3:=g.box _ (getD_mem (l:=p.Box) (i:=i) (by rw[←(g.row r hr).1];exact hi))
 unfold hopT
 split
 ·exact h2
 ·split
  ·exact mul_ran2 h1 ⟨by omega,by omega⟩
  ·omega
theorem hopeless_ok (fu:Nat){p:SPoints}(g:Good p){x:List Int}(hx:Ran x) (hl:x.length=p.Box.length) (k:Nat) (hf:10<fu):F.points_hopeless fu p x k=some (p.Rows.any fun r=>decide (hopV r p x k<0)):=by
 have h4:=g.len
 have h8:=g.rows
 have hloop:=loop_list (body:=F.points_hopeless_l2 fu p x k) p.Rows (fun (_:Unit) i=>i)
  (fun _ r=>cond (decide (hopV r p x k<0)) (some (.inr (Ex.ret true))) (some (.inl ()))) (fun _=>Ex.brk ())
  (fun z j r hr=>by
   have hw:=wrap_succ (get_lt hr) (by omega)
   have hm:=List.mem_of_getElem? hr
   have hlen:=(g.row r hm).1
   have hs:=sum_loop (F.points_hopeless_l1 fu p x k r) (hopT r p x k) r.Coef.length r.Const (by omega) (g.row r hm).2.1 (hop_terms g hm hx hl k)
    (fun i n hi h0 h1=>by
     have ht:=hop_terms g hm hx hl k i hi
     have hw:IntKind.i64.wrap ((i:Int)+1)=((i+1:Nat):Int):=wrap_succ hi (by omega)
     have hd:decide ((i:Int)<(r.Coef.length:Int))=true:=by simp;omega
     have hbx:=g.box _ (getD_mem (l:=p.Box) (i:=i) (by omega))
     simp only[F.points_hopeless_l1,hd,cond_true,idx_nat (getD_of hi),Option.bind_some,hw]
     unfold hopT at ht⊢
     by_cases hik:i<k
     ·have hd2:decide ((i:Int)<(k:Int))=true:=by simp;omega
      rw[if_pos hik] at ht⊢
      simp only[hd2,cond_true,idx_nat (getD_of (l:=x) (i:=i) (by omega)),Option.bind_some]
      rw[i64 (n:=r.Coef.getD i 0*x.getD i 0) (by omega) (by omega),i64 (by omega) (by omega)]
     ·have hd2:decide ((i:Int)<(k:Int))=false:=by simp;omega
      rw[if_neg hik] at ht⊢
      simp only[hd2,cond_false]
      by_cases hpos:r.Coef.getD i 0>0
      ·rw[if_pos hpos] at ht⊢
       have hd3:decide (r.Coef.getD i 0>0)=true:=by simpa using hpos
       simp only[hd3,cond_true,Option.bind_some,idx_nat (getD_of (l:=p.Box) (i:=i) (by omega)),Option.bind_some]
       rw[i64 (n:=p.Box.getD i 0-1) (by omega) (by omega),i64 (n:=r.Coef.getD i 0*(p.Box.getD i 0-1)) (by omega) (by omega),i64 (by omega) (by omega)]
      ·rw[if_neg hpos] at ht⊢
       have hd3:decide (r.Coef.getD i 0>0)=false:=by simpa using hpos
       simp only[hd3,cond_false,Option.bind_some,Int.add_zero])
    (fun n=>by simp only[F.points_hopeless_l1,dec_end,cond_false]) fu hf
   have hs2:loopF (F.points_hopeless_l1 fu p x k r) fu (r.Const,0)=some (hopV r p x k):=hs
   simp only[F.points_hopeless_l2,dec_lt hr,cond_true,idx_nat hr,Option.bind_some,hw,hs2]
   rcases Bool.eq_false_or_eq_true (decide (hopV r p x k<0)) with h | h <;> simp only[h,cond_true,cond_false] <;> rfl)
  (fun n=>by simp only[F.points_hopeless_l2,dec_end,cond_false]) fu (by omega) ()
 simp only[F.points_hopeless,hloop,any_fold]
 rcases Bool.eq_false_or_eq_true (p.Rows.any fun r=>decide (hopV r p x k<0)) with h | h <;> simp[h,bindE]
def ext:List Int→List Int→List (List Int)
 | [],pre=>[pre]
 | n::r,pre=>(List.range n.toNat).flatMap fun (i:Nat)=>ext r (pre++[(i:Int)])
def InB:List Int→List Int→Prop
 | [],[]=>True
 | n::r,i::t=>0≤i∧i<n∧InB r t
 | _,_=>False
theorem mem_ext:∀{r pre q:List Int},q∈ext r pre↔∃t,q=pre++t∧InB r t
 | [],pre,q=>by
  simp only[ext,List.mem_singleton]
  constructor
  ·rintro rfl;exact⟨[],by simp,trivial⟩
  ·rintro⟨t,rfl,h⟩
   cases t with
   | nil=>simp
   | cons _ _=>exact h.elim
 | n::r,pre,q=>by
  simp only[ext,List.mem_flatMap,List.mem_range]
  constructor
  ·rintro⟨i,hi,h⟩
   obtain⟨t,rfl,ht⟩:=mem_ext.1 h
   exact⟨(i:Int)::t,by simp,by omega,by omega,ht⟩
  ·rintro⟨t,rfl,h⟩
   cases t with
   | nil=>exact h.elim
   | cons i t=>
    obtain⟨h1,h2,h3⟩:=h
    refine⟨i.toNat,by omega,mem_ext.2 ⟨t,?_,h3⟩⟩
    rw[Int.toNat_of_nonneg h1]
    simp
theorem InB.len:∀{r t:List Int},InB r t→t.length=r.length
 | [],[],_=>rfl
 | _::r,_::t,h=>by simp only[List.length_cons,h.2.2.len]
 | [],_::_,h=>h.elim
 | _::_,[],h=>h.elim
theorem InB.at:∀{r t:List Int},InB r t→∀i,i<r.length→0≤t.getD i 0∧t.getD i 0<r.getD i 0
 | _::r,_::t,h,0,_=>⟨h.1,h.2.1⟩
 | _::r,_::t,h,i+1,hi=>by
  have:=h.2.2.at i (by simpa using hi)
  simpa using this
 | [],_,_,_,hi=>by simp at hi
 | _::_,[],h,_,_=>h.elim
theorem InB.of:∀{r t:List Int},t.length=r.length→(∀i,i<r.length→0≤t.getD i 0∧t.getD i 0<r.getD i 0)→InB r t
 | [],[],_,_=>trivial
 | n::r,i::t,hl,h=>by
  refine⟨(h 0 (by simp)).1,(h 0 (by simp)).2,InB.of (by simpa using hl) fun j hj=>?_⟩
  have:=h (j+1) (by simpa using hj)
  simpa using this
 | [],_::_,h,_=>by simp at h
 | _::_,[],h,_=>by simp at h
theorem ext_snoc:∀(r pre:List Int) (n:Int),ext (r++[n]) pre=(ext r pre).flatMap fun x=>(List.range n.toNat).map fun (i:Nat)=>x++[(i:Int)]
 | [],pre,n=>by
  simp only[List.nil_append,ext,List.flatMap_singleton]
  induction List.range n.toNat with
  | nil=>rfl
  | cons a l ih=>simp[ih]
 | m::r,pre,n=>by
  simp only[List.cons_append,ext,List.flatMap_assoc]
  congr 1
  funext i
  exact ext_snoc r _ n
def sat (p:SPoints) (q:List Int):Bool:=p.Rows.all fun r=>decide (0≤atV r q)
def pts (p:SPoints):List (List Int):=(ext p.Box []).filter (sat p)
theorem hop_none {p:SPoints}(g:Good p){x:List Int}(hx:Ran x) (hl:x.length=p.Box.length){k:Nat}(hk:k≤p.Box.length) (h:(p.Rows.any fun r=>decide (hopV r p x k<0))=true):(ext (p.Box.drop k) (x.take k)).filter (sat p)=[]:=by
 rw[List.filter_eq_nil_iff]
 intro q hq hs
 obtain⟨t,rfl,ht⟩:=mem_ext.1 hq
 obtain⟨r,hr,h0⟩:=List.any_eq_true.1 h
 have h0:hopV r p x k<0:=by simpa using h0
 have h1:=List.all_eq_true.1 hs r hr
 have h1:0≤atV r (x.take k++t):=by simpa using h1
 have hlen:=(g.row r hr).1
 have:atV r (x.take k++t)≤hopV r p x k:=by
  unfold atV hopV
  refine Int.add_le_add (Int.le_refl _) (sumT_le fun i hi=>?_)
  have hc:=(g.row r hr).2.2 _ (getD_mem hi)
  unfold hopT
  by_cases hik:i<k
  ·rw[if_pos hik]
   have:(x.take k++t).getD i 0=x.getD i 0:=by
    rw[List.getD_eq_getElem?_getD,List.getD_eq_getElem?_getD,List.getElem?_append_left (by rw[List.length_take];omega),List.getElem?_take_of_lt hik]
   rw[this]
   exact Int.le_refl _
  ·rw[if_neg hik]
   have e:(x.take k++t).getD i 0=t.getD (i-k) 0:=by
    rw[List.getD_eq_getElem?_getD,List.getD_eq_getElem?_getD,List.getElem?_append_right (by rw[List.length_take];omega),List.length_take,Nat.min_eq_left (by omega)]
   have e2:(p.Box.drop k).getD (i-k) 0=p.Box.getD i 0:=by
    rw[List.getD_eq_getElem?_getD,List.getD_eq_getElem?_getD,List.getElem?_drop,show k+(i-k)=i by omega]
   have h2:=ht.at (i-k) (by rw[List.length_drop];omega)
   rw[e2] at h2
   rw[e]
   split
   ·rename_i hpos
    exact Int.mul_le_mul_of_nonneg_left (by omega) (by omega)
   ·rename_i hneg
    exact Int.mul_nonpos_of_nonpos_of_nonneg (by omega) h2.1
 omega
theorem hop_leaf {p:SPoints}(g:Good p){x:List Int}(hl:x.length=p.Box.length):(p.Rows.any fun r=>decide (hopV r p x p.Box.length<0))=!(sat p x):=by
 unfold sat
 rw[List.not_all_eq_any_not]
 have:∀l:List SRow,(∀r∈l,r∈p.Rows)→(l.any fun r=>decide (hopV r p x p.Box.length<0))=l.any fun r=>!decide (0≤atV r x):=by
  intro l
  induction l with
  | nil=>intro _;rfl
  | cons r l ih=>
   intro h
   have hr:=h r (List.mem_cons_self ..)
   have e:hopV r p x p.Box.length=atV r x:=by
    unfold hopV atV
    congr 1
    exact sumT_congr fun i hi=>by unfold hopT;rw[if_pos (by rw[←(g.row r hr).1];exact hi)]
   rw[List.any_cons,List.any_cons,ih fun r hr=>h r (List.mem_cons_of_mem _ hr),e]
   congr 1
   rw[Bool.eq_iff_iff]
   simp
 exact this p.Rows fun _ h=>h
end Go.DN
