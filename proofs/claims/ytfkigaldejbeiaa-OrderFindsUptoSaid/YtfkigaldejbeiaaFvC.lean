/-
  Points: the plain law: the reference's list of points; rounds; the walk.
-/
import Derived.Test.YtfkigaldejbeiaaFvB
set_option linter.unusedSectionVars false
set_option linter.unusedSimpArgs false
set_option linter.unusedVariables false
namespace Go.DN
open Go.AM
set_option linter.unusedVariables false
theorem acc_loop {α β τ ρ:Type}{body:τ→Option (τ⊕ρ)}(l:List α) (st:List β→Int→τ) (f:α→List β) (e:List β→ρ) (M:Nat) (out0:List β) (hM:out0.length+(l.flatMap f).length≤M)
  (hstep:∀(k:Nat) (x:α) (out:List β),l[k]?=some x→out.length+(f x).length≤M→body (st out (k:Int))=some (.inl (st (out++f x) ((k+1:Nat):Int)))) (hend:∀out,body (st out (l.length:Int))=some (.inr (e out)))
  (fu:Nat) (hf:l.length<fu):loopF body fu (st out0 0)=some (e (out0++l.flatMap f)):=by
 have key:∀(m k fuel:Nat) (out:List β),k+m=l.length→m<fuel→out.length+((l.drop k).flatMap f).length≤M→loopF body fuel (st out (k:Int))=some (e (out++(l.drop k).flatMap f)):=by
  intro m
  induction m with
  | zero=>
   intro k fuel out h1 h2 _
   obtain⟨fuel,rfl⟩:∃f,fuel=f+1:=⟨fuel-1,by omega⟩
   have:k=l.length:=by omega
   subst this
   simp only[loopF,hend,List.drop_length,List.flatMap_nil,List.append_nil]
  | succ m ih=>
   intro k fuel out h1 h2 h3
   obtain⟨fuel,rfl⟩:∃f,fuel=f+1:=⟨fuel-1,by omega⟩
   have hk:k<l.length:=by omega
   rw[List.drop_eq_getElem_cons hk,List.flatMap_cons] at h3⊢
   rw[List.length_append] at h3
   simp only[loopF,hstep k l[k] out (List.getElem?_eq_getElem hk) (by omega)]
   rw[ih (k+1) fuel (out++f l[k]) (by omega) (by omega) (by rw[List.length_append];omega),List.append_assoc]
 have:=key l.length 0 fu out0 (by omega) hf (by simpa using hM)
 simpa using this
def len0:List Int→Nat
 | []=>1
 | n::r=>n.toNat*len0 r
theorem ext_len:∀(r pre:List Int),(ext r pre).length=len0 r
 | [],pre=>rfl
 | n::r,pre=>by
  simp only[ext,len0,List.length_flatMap,ext_len r]
  rw[List.map_const',List.sum_replicate_nat,List.length_range]
theorem prodL_len:∀(r:List Int) (n:Int),(∀x∈r,0≤x)→prodL n r=n*(len0 r:Int)
 | [],n,_=>by simp[prodL,len0]
 | x::r,n,h=>by
  have hx:=h x (List.mem_cons_self ..)
  simp only[prodL,len0,prodL_len r (n*x) fun y hy=>h y (List.mem_cons_of_mem _ hy)]
  rw[Int.natCast_mul,Int.toNat_of_nonneg hx,Int.mul_assoc]
theorem len0_le:∀(r:List Int),(∀x∈r,x≤4096)→len0 r≤4096^r.length
 | [],_=>by simp[len0]
 | x::r,h=>by
  have hx:=h x (List.mem_cons_self ..)
  have h1:=len0_le r fun y hy=>h y (List.mem_cons_of_mem _ hy)
  simp only[len0,List.length_cons,Nat.pow_succ]
  rw[Nat.mul_comm]
  exact Nat.mul_le_mul h1 (by omega)
theorem Good.pts_le {p:SPoints}(g:Good p):(ext p.Box []).length≤4096:=by
 have h1:=g.prod
 rw[prodL_len p.Box 1 fun x hx=>(g.box x hx).1] at h1
 rw[ext_len]
 omega
theorem Good.take_le {p:SPoints}(g:Good p) (j:Nat) (hj:j≤p.Box.length):(ext (p.Box.take j) []).length≤68719476736:=by
 by_cases h:j=p.Box.length
 ·subst h
  rw[List.take_length]
  have:=g.pts_le
  omega
 ·have h4:=g.len
  rw[ext_len]
  refine Nat.le_trans (len0_le _ fun x hx=>(g.box x (List.mem_of_mem_take hx)).2) ?_
  rw[List.length_take,Nat.min_eq_left hj]
  refine Nat.le_trans (Nat.pow_le_pow_right (by decide) (show j≤3 by omega)) (by decide)
theorem refBox_ok:∀(n fu:Nat) (box:List Int),box.length=n→n≤4→(∀x∈box,0≤x∧x≤4096)→(∀j,j≤n→(ext (box.take j) []).length≤68719476736)→68719476740+n<fu→F.adjointref9_Box fu box=some (ext box []):=by
 intro n
 induction n with
 | zero=>
  intro fu box hl _ _ _ hf
  obtain⟨fu,rfl⟩:∃f,fu=f+1:=⟨fu-1,by omega⟩
  have:box=[]:=List.eq_nil_of_length_eq_zero hl
  subst this
  rfl
 | succ n ih=>
  intro fu box hl h4 hr hj hf
  obtain⟨fu,rfl⟩:∃f,fu=f+1:=⟨fu-1,by omega⟩
  show F.adjointref9_Box_b (F.adjointref9_Box fu) (fu+1) box=_
  unfold F.adjointref9_Box_b
  have h0:((List.length box:Int)==0)=false:=by simp;intro e;subst e;simp at hl
  have hw:IntKind.i64.wrap ((List.length box:Int)-1)=(n:Int):=by rw[i64 (by omega) (by omega)];omega
  have hc:=chk_pos (p:=(0:Int)≤(n:Int)∧(n:Int)≤(List.length box:Int)) (by omega)
  have hlp:lpart box 0 (n:Int)=box.take n:=by simp[lpart]
  have htl:(box.take n).length=n:=by rw[List.length_take];omega
  have hrec:=ih fu (box.take n) htl (by omega) (fun x hx=>hr x (List.mem_of_mem_take hx)) (fun j hjn=>by rw[List.take_take,Nat.min_eq_left hjn];exact hj j (by omega)) (by omega)
  simp only[h0,cond_false,hw,hc,Option.bind_some,hlp,hrec]
  have hlast:box=box.take n++[box.getD n 0]:=by
   have h1:n<box.length:=by omega
   conv=>lhs;rw[←List.take_append_drop n box]
   congr 1
   rw[List.drop_eq_getElem_cons h1,List.drop_eq_nil_of_le (by omega)]
   congr 1
   rw[List.getD_eq_getElem?_getD,List.getElem?_eq_getElem h1];rfl
  have hnn:=hr _ (getD_mem (l:=box) (i:=n) (by omega))
  have hge:∀x∈ext (box.take n) [],x.length≤3:=fun x hx=>by
   obtain⟨t,rfl,ht⟩:=mem_ext.1 hx
   have:=ht.len
   rw[htl] at this
   omega
  have hfull:ext box []=(ext (box.take n) []).flatMap fun x=>(List.range (box.getD n 0).toNat).flatMap fun (i:Nat)=>[x++[(i:Int)]]:=by
   conv=>lhs;rw[hlast]
   rw[ext_snoc]
   congr 1
   funext x
   rw[List.map_eq_flatMap]
  have hM:(ext box []).length≤68719476736:=by
   have:=hj (n+1) (Nat.le_refl _)
   rwa[List.take_of_length_le (by omega)] at this
  have hloop:=acc_loop (body:=F.adjointref9_Box_l3 (F.adjointref9_Box fu) (fu+1) box (ext (box.take n) [])) (ext (box.take n) []) (fun out i=>(i,out))
   (fun x=>(List.range (box.getD n 0).toNat).flatMap fun (i:Nat)=>[x++[(i:Int)]]) (fun out=>out) 68719476736 [] (by rw[←hfull];simpa using hM)
   (fun k x out hx hout=>by
    have hw1:=wrap_succ (get_lt hx) (by have:=hj n (by omega);omega)
    have hx3:=hge x (List.mem_of_getElem? hx)
    have hin:=acc_loop (body:=F.adjointref9_Box_l2 (F.adjointref9_Box fu) (fu+1) box x) (List.range (box.getD n 0).toNat) (fun out i=>(i,out)) (fun (i:Nat)=>[x++[(i:Int)]]) (fun out=>out) 68719476736 out hout
     (fun i y o hy ho=>by
      have hi:=get_lt hy
      have hyi:y=i:=by
       rw[List.getElem?_range (by simpa using hi)] at hy
       exact(Option.some.inj hy).symm
      subst hyi
      rw[List.length_range] at hi
      have hd:decide ((y:Int)<box.getD n 0)=true:=by simp only[decide_eq_true_eq];omega
      simp only[List.length_singleton] at ho
      have c1:=chk_pos (p:=(List.length ([]:(List Int)))+(List.length x)≤maxLen∧((List.length ([]:(List Int)))+(List.length x))*8≤140737488355328) (by simp only[List.length_nil,maxLen];omega)
      have c2:=chk_pos (p:=(List.length x)+(List.length [(y:Int)])≤maxLen∧((List.length x)+(List.length [(y:Int)]))*8≤140737488355328) (by simp only[List.length_singleton,maxLen];omega)
      have c3:=chk_pos (p:=(List.length o)+(List.length [x++[(y:Int)]])≤maxLen∧((List.length o)+(List.length [x++[(y:Int)]]))*24≤140737488355328) (by simp only[List.length_singleton,maxLen];omega)
      have hw2:IntKind.i64.wrap ((y:Int)+1)=((y+1:Nat):Int):=wrap_succ (n:=4097) (by omega) (by omega)
      simp only[F.adjointref9_Box_l2,hw,idx_nat (getD_of (l:=box) (i:=n) (by omega)),Option.bind_some,hd,cond_true,c1,c2,c3,hw2,List.nil_append])
     (fun o=>by
      have hd:decide (((List.range (box.getD n 0).toNat).length:Int)<box.getD n 0)=false:=by rw[List.length_range];simp only[decide_eq_false_iff_not];omega
      simp only[F.adjointref9_Box_l2,hw,idx_nat (getD_of (l:=box) (i:=n) (by omega)),Option.bind_some,hd,cond_false])
     (fu+1) (by rw[List.length_range];omega)
    simp only[F.adjointref9_Box_l3,dec_lt hx,cond_true,idx_nat hx,Option.bind_some,hw1,hin])
   (fun out=>by simp only[F.adjointref9_Box_l3,dec_end,cond_false])
   (fu+1) (by have:=hj n (by omega);omega)
  rw[hloop,←hfull]
  rfl
theorem mem_ran {p:SPoints}(g:Good p){q:List Int}(h:q∈ext p.Box []):Ran q∧q.length=p.Box.length:=by
 obtain⟨t,rfl,ht⟩:=mem_ext.1 h
 refine⟨fun y hy=>?_,ht.len⟩
 obtain⟨i,hi,rfl⟩:=List.getElem_of_mem hy
 have h1:=ht.at i (by rw[←ht.len];exact hi)
 have h2:=g.box _ (getD_mem (l:=p.Box) (i:=i) (by rw[←ht.len];exact hi))
 rw[List.getD_eq_getElem?_getD,List.getElem?_eq_getElem hi,Option.getD_some] at h1
 omega
theorem refAll_ok (fu:Nat){p:SPoints}(g:Good p) (hf:68719476750<fu):F.adjointref9_All fu p=some (pts p):=by
 have h4:=g.len
 have h8:=g.rows
 have hlen:=g.pts_le
 have hb:=refBox_ok p.Box.length fu p.Box rfl h4 g.box g.take_le (by omega)
 have hpts:pts p=(ext p.Box []).flatMap fun x=>if sat p x then[x] else[]:=by
  unfold pts
  induction ext p.Box [] with
  | nil=>rfl
  | cons x l ih=>
   rw[List.filter_cons,List.flatMap_cons,ih]
   split <;> simp
 have hle:(pts p).length≤4096:=Nat.le_trans (List.length_filter_le _ _) hlen
 have hloop:=acc_loop (body:=F.adjointref9_All_l2 fu p (ext p.Box [])) (ext p.Box []) (fun out i=>(i,out)) (fun x=>if sat p x then[x] else[]) (fun out=>out) 4096 [] (by rw[←hpts];simpa using hle)
  (fun k x out hx hout=>by
   have hw:=wrap_succ (get_lt hx) (by omega)
   obtain⟨hr,hl⟩:=mem_ran g (List.mem_of_getElem? hx)
   have hin:=loop_list (body:=F.adjointref9_All_l1 fu p x) p.Rows (fun ok i=>(ok,i)) (fun ok r=>some (.inl (ok&&decide (0≤atV r x)))) (fun ok=>ok)
    (fun ok j r hj=>by
     have hw:=wrap_succ (get_lt hj) (by omega)
     have hm:=List.mem_of_getElem? hj
     simp only[F.adjointref9_All_l1,dec_lt hj,cond_true,idx_nat hj,Option.bind_some,hw,refAt_ok fu g hm hr hl (by omega)]
     cases ok <;> simp[turn])
    (fun ok=>by simp only[F.adjointref9_All_l1,dec_end,cond_false]) fu (by omega) true
   have key:∀(l:List SRow) (ok:Bool),foldE (fun (ok:Bool) r=>some (.inl (ok&&decide (0≤atV r x)))) (fun ok:Bool=>ok) ok l=some (ok&&l.all fun r=>decide (0≤atV r x)):=by
    intro l
    induction l with
    | nil=>intro ok;simp[foldE]
    | cons r l ih=>intro ok;simp only[foldE,ih,List.all_cons,Bool.and_assoc]
   rw[key,Bool.true_and] at hin
   have hin2:loopF (F.adjointref9_All_l1 fu p x) fu (true,0)=some (sat p x):=hin
   simp only[F.adjointref9_All_l2,dec_lt hx,cond_true,idx_nat hx,Option.bind_some,hin2,hw]
   rcases Bool.eq_false_or_eq_true (sat p x) with h | h
   ·rw[if_pos h] at hout⊢
    simp only[List.length_singleton] at hout
    have c:=chk_pos (p:=(List.length out)+(List.length [x])≤maxLen∧((List.length out)+(List.length [x]))*24≤140737488355328) (by simp only[List.length_singleton,maxLen];omega)
    simp only[h,cond_true,c,Option.bind_some]
   ·simp[h])
  (fun out=>by simp only[F.adjointref9_All_l2,dec_end,cond_false]) fu (by omega)
 simp only[F.adjointref9_All,hb,Option.bind_some,hloop,←hpts,List.nil_append]
def runY {σ:Type}(y:List Int→σ→σ×Jp):List (List Int)→σ→σ×Jp
 | [],s=>(s,.go)
 | x::r,s=>if (y x s).2=.go then runY y r (y x s).1 else y x s
theorem runY_append {σ:Type}(y:List Int→σ→σ×Jp):∀(a b:List (List Int)) (s:σ),runY y (a++b) s=if (runY y a s).2=.go then runY y b (runY y a s).1 else runY y a s
 | [],b,s=>by simp[runY]
 | x::a,b,s=>by
  simp only[List.cons_append,runY]
  by_cases h:(y x s).2=.go
  ·simp only[h,if_true]
   exact runY_append y a b _
  ·simp only[h,if_false]
theorem walk_loop {σ τ ρ:Type}{body:τ→Option (τ⊕ρ)}(st:List Int→σ→τ) (brk:List Int→σ→ρ) (ret:List Int→σ→Jp→ρ) (y:List Int→σ→σ×Jp) (L N k:Nat) (E:Nat→List (List Int)) (pre:List Int) (hkL:k<L) (hN:N≤4096)
  (hstep:∀(i:Nat) (x:List Int) (s:σ),i<N→x.length=L→Ran x→x.take k=pre→x.getD k 0=(i:Int)→∃x':List Int,x'.length=L∧Ran x'∧x'.take k=pre∧
   body (st x s)=some (if (runY y (E i) s).2=.go then .inl (st (x'.set k ((i+1:Nat):Int)) (runY y (E i) s).1) else .inr (ret x' (runY y (E i) s).1 (runY y (E i) s).2)))
  (hend:∀(x:List Int) (s:σ),x.length=L→x.getD k 0=(N:Int)→body (st x s)=some (.inr (brk x s)))
  (fu:Nat) (x:List Int) (s:σ) (hl:x.length=L) (hr:Ran x) (ht:x.take k=pre) (h0:x.getD k 0=0) (hf:N<fu):
  ∃x':List Int,x'.length=L∧Ran x'∧x'.take k=pre∧loopF body fu (st x s)=some (if (runY y ((List.range N).flatMap E) s).2=.go then brk x' (runY y ((List.range N).flatMap E) s).1 else ret x' (runY y ((List.range N).flatMap E) s).1 (runY y ((List.range N).flatMap E) s).2):=by
 have key:∀(m i fuel:Nat) (x:List Int) (s:σ),i+m=N→m<fuel→x.length=L→Ran x→x.take k=pre→x.getD k 0=(i:Int)→
   ∃x':List Int,x'.length=L∧Ran x'∧x'.take k=pre∧loopF body fuel (st x s)=some (if (runY y ((List.range' i m).flatMap E) s).2=.go then brk x' (runY y ((List.range' i m).flatMap E) s).1 else ret x' (runY y ((List.range' i m).flatMap E) s).1 (runY y ((List.range' i m).flatMap E) s).2):=by
  intro m
  induction m with
  | zero=>
   intro i fuel x s h1 h2 hl hr ht hi
   obtain⟨fuel,rfl⟩:∃f,fuel=f+1:=⟨fuel-1,by omega⟩
   have:i=N:=by omega
   subst this
   refine⟨x,hl,hr,ht,?_⟩
   simp only[loopF,hend x s hl hi,List.range'_zero,List.flatMap_nil,runY,if_true]
  | succ m ih=>
   intro i fuel x s h1 h2 hl hr ht hi
   obtain⟨fuel,rfl⟩:∃f,fuel=f+1:=⟨fuel-1,by omega⟩
   obtain⟨x1,a1,a2,a3,a4⟩:=hstep i x s (by omega) hl hr ht hi
   rw[List.range'_succ,List.flatMap_cons,runY_append]
   by_cases hg:(runY y (E i) s).2=.go
   ·rw[if_pos hg] at a4
    obtain⟨x2,b1,b2,b3,b4⟩:=ih (i+1) fuel (x1.set k ((i+1:Nat):Int)) (runY y (E i) s).1 (by omega) (by omega) (by rw[List.length_set];exact a1)
     (fun z hz=>by
      rcases List.mem_or_eq_of_mem_set hz with h | h
      ·exact a2 z h
      ·subst h;omega)
     (by rw[List.take_set,List.set_eq_of_length_le (by rw[List.length_take];omega)];exact a3)
     (by rw[List.getD_eq_getElem?_getD,List.getElem?_set_self (by omega)];rfl)
    refine⟨x2,b1,b2,b3,?_⟩
    simp only[loopF,a4,hg,if_true]
    exact b4
   ·rw[if_neg hg] at a4
    refine⟨x1,a1,a2,a3,?_⟩
    simp only[loopF,a4,hg,if_false]
 have:=key N 0 fu x s (by omega) hf hl hr ht h0
 rw[←List.range_eq_range'] at this
 exact this
theorem clone2_ok (fu:Nat) (s:List Int) (h:s.length≤65536):F.slices_Clone fu s=some s:=by
 have c:=chk_pos (p:=(List.length ([]:(List Int)))+(List.length s)≤maxLen∧((List.length ([]:(List Int)))+(List.length s))*8≤140737488355328) (by simp only[List.length_nil,maxLen];omega)
 unfold F.slices_Clone nilF
 simp only[c,Option.bind_some,List.nil_append]
 split
 ·rename_i h0
  have:s=[]:=List.eq_nil_of_length_eq_zero (by omega)
  subst this
  simp
 ·rfl
theorem filter_ext_cons (f:List Int→Bool) (n:Int) (r pre:List Int):(ext (n::r) pre).filter f=(List.range n.toNat).flatMap fun (i:Nat)=>(ext r (pre++[(i:Int)])).filter f:=by
 simp only[ext,List.filter_flatMap]
end Go.DN
