/-
  Nest: the plain law: all statements, there and at the reference.
-/
import Derived.Test.YtfkigaldejbeiaaFvE
set_option linter.unusedSectionVars false
set_option linter.unusedSimpArgs false
set_option linter.unusedVariables false
namespace Go.DN
open Go.AM
def spotsOf (i:Nat) (s:SStmt):List SSpot:=(pts s.Over).map fun x=>⟨(i:Int),x⟩
def spots (n:SNest):List SSpot:=n.Stmts.zipIdx.flatMap fun q=>spotsOf q.2 q.1
theorem zip_get {α:Type}{l:List α}{k:Nat}{q:α×Nat}(h:l.zipIdx[k]?=some q):l[k]?=some q.1∧q.2=k:=by
 rw[List.getElem?_zipIdx] at h
 obtain⟨a,h1,h2⟩:=Option.map_eq_some_iff.1 h
 subst h2
 exact⟨h1,by simp⟩
theorem pts_len {p:SPoints}(g:Good p):(pts p).length≤4096:=Nat.le_trans (List.length_filter_le _ _) g.pts_le
theorem flat_lenN {α β:Type}{f:α→List β}{M:Nat}:∀(l:List α),(∀a∈l,(f a).length≤M)→(l.flatMap f).length≤l.length*M
 | [],_=>by simp
 | a::l,h=>by
  have h1:=h a List.mem_cons_self
  have h2:=flat_lenN l fun b hb=>h b (List.mem_cons_of_mem _ hb)
  rw[List.flatMap_cons,List.length_append,List.length_cons,Nat.add_mul]
  omega
theorem spots_ok (fu:Nat){n:SNest}(hg:∀s∈n.Stmts,GoodS n s) (hl:n.Stmts.length≤256) (hf:68719476750<fu):F.adjointref10_Spots fu n=some (spots n):=by
 have hM:(spots n).length≤1048576:=by
  have:=flat_lenN (f:=fun q:SStmt×Nat=>spotsOf q.2 q.1) (M:=4096) n.Stmts.zipIdx (fun q hq=>by
   obtain⟨k,hk⟩:=List.getElem?_of_mem hq
   have:=zip_get hk
   unfold spotsOf
   rw[List.length_map]
   exact pts_len (hg q.1 (List.mem_of_getElem? this.1)).over)
  rw[List.length_zipIdx] at this
  have h2:n.Stmts.length*4096≤256*4096:=Nat.mul_le_mul_right _ hl
  unfold spots
  omega
 have:=acc_loop (body:=F.adjointref10_Spots_l2 fu n) n.Stmts.zipIdx (fun out i=>(i,out)) (fun q=>spotsOf q.2 q.1) (fun out=>out) 1048576 [] (by show 0+(spots n).length≤_;omega)
  (fun k q out hk hout=>by
   obtain⟨h1,h2⟩:=zip_get hk
   have g:=hg q.1 (List.mem_of_getElem? h1)
   have hw:=wrap_succ (get_lt h1) (by omega)
   have hp:=pts_len g.over
   have hfm:(pts q.1.Over).flatMap (fun x=>[(⟨(k:Int),x⟩:SSpot)])=spotsOf k q.1:=by unfold spotsOf;rw[List.map_eq_flatMap]
   rw[h2] at hout⊢
   have hin:=acc_loop (body:=F.adjointref10_Spots_l1 fu (k:Int) (pts q.1.Over)) (pts q.1.Over) (fun out i=>(i,out)) (fun x=>[(⟨(k:Int),x⟩:SSpot)]) (fun out=>out) 1048576 out (by rw[hfm];exact hout)
    (fun j x o hj ho=>by
     have hw:=wrap_succ (get_lt hj) (by omega)
     have c:=chk_pos (p:=(List.length o)+(List.length [(⟨(k:Int),x⟩:SSpot)])≤maxLen∧((List.length o)+(List.length [(⟨(k:Int),x⟩:SSpot)]))*32≤140737488355328) (by simp only[List.length_singleton,maxLen] at *;omega)
     simp only[F.adjointref10_Spots_l1,dec_lt hj,cond_true,idx_nat hj,Option.bind_some,hw,c])
    (fun o=>by simp only[F.adjointref10_Spots_l1,dec_end,cond_false]) fu (by omega)
   simp only[F.adjointref10_Spots_l2,dec_lt h1,cond_true,idx_nat h1,Option.bind_some,hw,refAll_ok fu g.over hf,hin,hfm])
  (fun out=>by
   have:decide (((n.Stmts.zipIdx).length:Int)<(n.Stmts.length:Int))=false:=by rw[List.length_zipIdx];simp
   simp only[F.adjointref10_Spots_l2,this,cond_false]) fu (by rw[List.length_zipIdx];omega)
 simp only[F.adjointref10_Spots,this,Option.bind_some,List.nil_append]
 rfl
theorem pts_mem {p:SPoints}(g:Good p){x:List Int}(h:x∈pts p):Ran x∧x.length=p.Box.length:=mem_ran g (List.mem_filter.1 h).1
end Go.DN
