/-
  Text, reading: a program is the same as itself; both read the same.
-/
import Derived.Test.YtaobkpnecfcefaaDoorUqE
import Derived.Test.YtaobkpnecfcefaaDoorUrC
set_option linter.unusedVariables false
set_option linter.unusedSimpArgs false
namespace Go.DN
open Go.AM
theorem same_loop {α τ ρ:Type}{body:τ→Option (τ⊕ρ)}(l:List α) (st:Nat→τ) (good:ρ) (hb:∀k x,l[k]?=some x→body (st k)=some (.inl (st (k+1)))) (he:body (st l.length)=some (.inr good)):
  ∀(fu k:Nat),l.length-k<fu→k≤l.length→loopF body fu (st k)=some good
 | 0,k,h,_=>by omega
 | fu+1,k,h,hk=>by
  rw[loopF_step]
  by_cases h1:k<l.length
  ·rw[hb k l[k] (by simp[h1]),step_inl]
   exact same_loop l st good hb he fu (k+1) (by omega) (by omega)
  ·obtain rfl:k=l.length:=by omega
   rw[he,step_inr]
theorem ne_self (a:Int):(a !=a)=false:=by simp
theorem wS {α:Type}{l:List α}{k:Nat}{x:α}(hl:Sm l) (h:l[k]?=some x):IntKind.wrap .i64 ((k:Int)+1)=((k+1:Nat):Int):=w1 (by have:=get_lt h;unfold Sm at hl;omega)
theorem sameDims_ok {l:List SDim}(hl:Sm l){fu:Nat}(hf:Mx<fu):F.adjointref3_sameDims fu l l=some true:=by
 unfold F.adjointref3_sameDims
 rw[ne_self]
 have h:=same_loop (body:=F.adjointref3_sameDims_l1 fu l l) l (fun k=>(false,(k:Int))) (Ex.brk ()) (fun k x hx=>by
  have e2:(x.Name==x.Name&&(x.Size==x.Size&&true))=true:=by rw[str_refl];simp
  simp only[F.adjointref3_sameDims_l1,dec_lt hx,cond_true,idx_nat hx,Option.bind_some,e2,Bool.not_true,cond_false,wS hl hx]) (by simp only[F.adjointref3_sameDims_l1,dec_end,cond_false]) fu 0 (by unfold Sm at hl;omega) (by omega)
 have h:loopF (F.adjointref3_sameDims_l1 fu l l) fu (false,0)=_:=h
 simp only[cond_false,h,bindE]
theorem sameLists_ok {l:List (List Int)}(hl:SmL l){fu:Nat}(hf:Mx<fu):F.adjointref3_sameLists fu l l=some true:=by
 unfold F.adjointref3_sameLists
 rw[ne_self]
 have h:=same_loop (body:=F.adjointref3_sameLists_l2 fu l l) l (fun k=>(false,(k:Int))) (Ex.brk ()) (fun k x hx=>by
  have hx1:Sm x:=hl.2 x (List.mem_of_getElem? hx)
  have h1:=same_loop (body:=F.adjointref3_sameLists_l1 fu l l (k:Int) x) x (fun q=>(false,(q:Int))) (Ex.brk false) (fun q y hy=>by
   simp only[F.adjointref3_sameLists_l1,dec_lt hy,cond_true,idx_nat hx,idx_nat hy,Option.bind_some,ne_self,cond_false,wS hx1 hy]) (by simp only[F.adjointref3_sameLists_l1,dec_end,cond_false]) fu 0 (by unfold Sm at hx1;omega) (by omega)
  have h1:loopF (F.adjointref3_sameLists_l1 fu l l (k:Int) x) fu (false,0)=_:=h1
  simp only[F.adjointref3_sameLists_l2,dec_lt hx,cond_true,idx_nat hx,Option.bind_some,ne_self,cond_false,h1,bindE,wS hl.1 hx]) (by simp only[F.adjointref3_sameLists_l2,dec_end,cond_false]) fu 0 (by have:=hl.1;unfold Sm at this;omega) (by omega)
 have h:loopF (F.adjointref3_sameLists_l2 fu l l) fu (false,0)=_:=h
 simp only[cond_false,h,bindE]
theorem all_max {α:Type}{P:α→Nat→Prop}:∀{l:List α},(∀x∈l,∃n,∀fu,n≤fu→P x fu)→∃n,∀x∈l,∀fu,n≤fu→P x fu
 | [],_=>⟨0,fun x h=>by cases h⟩
 | y::r,h=>by
  obtain⟨n,hn⟩:=h y List.mem_cons_self
  obtain⟨m,hm⟩:=all_max (l:=r) fun x hx=>h x (List.mem_cons_of_mem _ hx)
  refine⟨n+m,fun x hx fu hf=>?_⟩
  rcases List.mem_cons.1 hx with rfl | hx
  ·exact hn fu (by omega)
  ·exact hm x hx fu (by omega)
theorem sameTree_ok {t:STree}(h:TOk t):∃n,∀fu,n≤fu→F.adjointref3_SameTree fu t t=some true:=by
 induction h with
 | mk h1 h2 h3 h4 ih=>
  rename_i k nm v b sh ls ks
  obtain⟨n,hn⟩:=all_max ih
  refine⟨n+Mx+2,fun fu hf=>?_⟩
  obtain⟨f,rfl⟩:∃f,fu=f+1:=⟨fu-1,by omega⟩
  simp only[F.adjointref3_SameTree,F.adjointref3_SameTree_b]
  have h:=same_loop (body:=F.adjointref3_SameTree_l1 (F.adjointref3_SameTree f) (f+1) ⟨k,nm,v,b,sh,ls,ks⟩ ⟨k,nm,v,b,sh,ls,ks⟩) ks (fun q=>(false,(q:Int))) (Ex.brk ()) (fun q y hy=>by
   simp only[F.adjointref3_SameTree_l1,dec_lt hy,cond_true,idx_nat hy,Option.bind_some,hn y (List.mem_of_getElem? hy) f (by omega),Bool.not_true,cond_false,wS h3 hy]) (by simp only[F.adjointref3_SameTree_l1,dec_end,cond_false]) (f+1) 0 (by unfold Sm at h3;omega) (by omega)
  have h:loopF (F.adjointref3_SameTree_l1 (F.adjointref3_SameTree f) (f+1) ⟨k,nm,v,b,sh,ls,ks⟩ ⟨k,nm,v,b,sh,ls,ks⟩) (f+1) (false,0)=_:=h
  have e1:(nm.toList==nm.toList)=true:=by simp
  have e2:(b==b)=true:=by simp
  simp only[ne_self,cond_false,e1,e2,Bool.not_true,sameDims_ok h1 (show Mx<f+1 by omega),sameLists_ok h2 (show Mx<f+1 by omega),Option.bind_some,h,bindE]
theorem sameProg_ok {p:List SFunc}(hp:PgOk p):∃n,∀fu,n≤fu→F.adjointref3_SameProgram fu p p=some true:=by
 obtain⟨n,hn⟩:=all_max (l:=p) (P:=fun f fu=>F.adjointref3_SameTree fu f.Body f.Body=some true) fun f hf=>sameTree_ok (hp.2 f hf).2
 refine⟨n+Mx+1,fun fu hf=>?_⟩
 unfold F.adjointref3_SameProgram
 rw[ne_self]
 have h:=same_loop (body:=F.adjointref3_SameProgram_l2 fu p p) p (fun k=>(false,(k:Int))) (Ex.brk ()) (fun k x hx=>by
  have hm:=List.mem_of_getElem? hx
  have hg:=(hp.2 x hm).1
  have h1:=same_loop (body:=F.adjointref3_SameProgram_l1 fu p p (k:Int) x) x.Given (fun q=>(false,(q:Int))) (Ex.brk false) (fun q y hy=>by
   have e1:(y.Name.toList==y.Name.toList)=true:=by simp
   have hd:=hg.2 y (List.mem_of_getElem? hy)
   simp only[F.adjointref3_SameProgram_l1,dec_lt hy,cond_true,idx_nat hx,idx_nat hy,Option.bind_some,e1,Bool.not_true,cond_false,sameDims_ok hd (show Mx<fu by omega),wS hg.1 hy]) (by simp only[F.adjointref3_SameProgram_l1,dec_end,cond_false]) fu 0 (by have:=hg.1;unfold Sm at this;omega) (by omega)
  have h1:loopF (F.adjointref3_SameProgram_l1 fu p p (k:Int) x) fu (false,0)=_:=h1
  have e1:(x.Name.toList==x.Name.toList)=true:=by simp
  simp only[F.adjointref3_SameProgram_l2,dec_lt hx,cond_true,idx_nat hx,Option.bind_some,e1,Bool.not_true,ne_self,cond_false,eta_tree,hn x hm fu (by omega),h1,bindE,wS hp.1 hx]) (by simp only[F.adjointref3_SameProgram_l2,dec_end,cond_false]) fu 0 (by have:=hp.1;unfold Sm at this;omega) (by omega)
 have h:loopF (F.adjointref3_SameProgram_l2 fu p p) fu (false,0)=_:=h
 simp only[cond_false,h,bindE]
theorem tokA_ok {s:ByteArray}(hs:s.size≤Mx){j k:Nat}(hj:j<s.size) (h:tokA s j=.inl k):TokOk ⟨s.extract j k,(j:Int)⟩:=by
 have hk:=tokA_gt hj h
 have hsz:(s.extract j k).size=k-j:=ext_size hk.2
 have hc:ch (s.extract j k) 0=ch s j:=ext_ch hk.2 (by omega)
 refine⟨by show 0<(s.extract j k).size;omega,by show(s.extract j k).size≤Mx;omega,fun hd=>?_⟩
 have hd:isD (ch s j)=true:=by rw[←hc];exact hd
 unfold tokA at h
 rw[if_pos (isD_LD hd),if_pos hd] at h
 split at h
 ·rename_i hn
  split at h
  ·cases h
  ·rename_i hb
   cases h
   refine⟨all_D8 ?_,by show vl 0 (s.extract j (scanP s isLD j)).data.toList≤Big;omega⟩
   unfold numl at hn
   rw[Bool.and_eq_true] at hn
   exact hn.1
 ·cases h
theorem lex_ok {s:ByteArray}(hs:s.size≤Mx){j:Nat}{out:List SToken}{r:TRes}(h:Lex s j out r):(∀t∈out,TokOk t)→∀t∈r.1,TokOk t:=by
 induction h with
 | fin=>exact fun h=>h
 | bad h ht=>exact fun _ t h=>by cases h
 | tok h ht hb hl ih=>
  intro ho
  refine ih fun t hm=>?_
  rcases List.mem_append.1 hm with hm | hm
  ·exact ho t hm
  ·simp at hm;subst hm;exact tokA_ok hs h ht
theorem lex_end {s:ByteArray}{j:Nat}{out:List SToken}{r:TRes}(h:Lex s j out r):r.2=⟨0,0⟩∨(r.2.Err≠0∧r.1=[]):=by
 induction h with
 | fin=>exact .inl rfl
 | bad h ht=>
  refine .inr ⟨?_,rfl⟩
  rcases tokA_err ht with rfl | rfl
  ·exact(by decide:((7:Nat):Int)≠0)
  ·exact(by decide:((4:Nat):Int)≠0)
 | tok h ht hb hl ih=>exact ih
theorem read_p {s:ByteArray}{fu:Nat}(X:Toks) (he:X.en=(s.size:Int)) (ht:F.text_Tokens fu s=some (X.L,⟨0,0⟩)) (hf:Mx+64<fu):
  F.text_Read fu s=some (match pProg X (X.L.length+1) 0 [] with | .ok a _=>(a,⟨0,0⟩) | .bad e p=>([],⟨e,p⟩)):=by
 have hz:=X.sz
 unfold F.text_Read F.text_Read_p unP
 simp only[ht,Option.bind_some,ne_self,cond_false,←he]
 have h:=prog_p (X:=X) hf (X.L.length+1) 0 [] fu (Nat.zero_le _) (by omega) (by omega) (by simp;omega)
 rw[List.drop_zero] at h
 revert h
 cases pProg X (X.L.length+1) 0 [] with
 | ok a j=>
  rintro⟨l,x,y,h⟩
  simp only[h,bindE,amb2_self,amb_self,Option.bind_some,read1,if_pos]
 | bad e p=>intro h;simp only[h,bindE,Option.bind_some]
end Go.DN
