/-
  Nest: the plain law: memory copied and compared; the law.
-/
import Derived.Test.YtfkigaldejbeiaaOvH
set_option linter.unusedSectionVars false
set_option linter.unusedSimpArgs false
set_option linter.unusedVariables false
namespace Go.DN
open Go.AM
theorem setMid {α:Type}(l:List α) (k:Nat) (hk:k<l.length) (z:α):(l.take k++List.replicate (l.length-k) z).set k l[k]=l.take (k+1)++List.replicate (l.length-(k+1)) z:=by
 have h1:(l.take k).length=k:=by rw[List.length_take];omega
 rw[List.set_append_right _ _ (by omega),h1,Nat.sub_self]
 obtain⟨r,hr⟩:∃r,l.length-k=r+1:=⟨l.length-k-1,by omega⟩
 have:l.length-(k+1)=r:=by omega
 have e:l.take (k+1)=l.take k++[l[k]]:=by rw[List.take_add_one,List.getElem?_eq_getElem hk];rfl
 rw[hr,List.replicate_succ,List.set_cons_zero,e,this,List.append_assoc]
 rfl
theorem fits_iff {n:SNest}{m:List (List Int)}(hl:m.length=n.Sizes.length):Fits n m↔∀(k:Nat) (r:List Int) (z:Int),m[k]?=some r→n.Sizes[k]?=some z→(r.length:Int)=z:=by
 constructor
 ·intro h k r z h1 h2
  have h:m.map (fun r=>(List.length r:Int))=n.Sizes:=h
  rw[←h,List.getElem?_map,h1] at h2
  exact Option.some.inj h2
 ·intro h
  show m.map (fun r=>(List.length r:Int))=n.Sizes
  apply List.ext_getElem (by rw[List.length_map];exact hl)
  intro k h1 h2
  rw[List.length_map] at h1
  rw[List.getElem_map]
  exact h k _ _ (List.getElem?_eq_getElem h1) (List.getElem?_eq_getElem h2)
theorem copied_ok (fu:Nat){n:SNest}(hs:n.Sizes.length≤1048576) (hz:∀x∈n.Sizes,0≤x∧x≤65536) (mem:List (List Int)) (hf:2000000<fu):
  (Fits n mem∧F.nest_Copied fu n mem=some (0,mem))∨(¬Fits n mem∧∃e,e≠0∧F.nest_Copied fu n mem=some (e,[])∧F.adjointref10_Fits fu n mem=some e):=by
 by_cases hl:mem.length=n.Sizes.length
 ·have b:((mem.length:Int) !=(n.Sizes.length:Int))=false:=by simp[hl]
  have hrow:∀k (hk:k<mem.length),∃z,n.Sizes[k]?=some z∧z≤65536:=fun k hk=>⟨_,List.getElem?_eq_getElem (by omega),(hz _ (List.getElem_mem (by omega))).2⟩
  obtain⟨r,h1,h2⟩:=loopF_inv (body:=F.nest_Copied_l1 fu n mem)
   (fun q:Int×List (List Int)=>∃k:Nat,q.1=(k:Int)∧k≤mem.length∧q.2=mem.take k++List.replicate (mem.length-k) []∧∀(j:Nat) (r:List Int) (z:Int),j<k→mem[j]?=some r→n.Sizes[j]?=some z→(r.length:Int)=z)
   (fun q=>mem.length-q.1.toNat) (fun r=>(r=Ex.brk mem∧Fits n mem)∨(r=Ex.ret ((6:Int),([]:List (List Int)))∧¬Fits n mem)) (by
    rintro⟨i,m4⟩ ⟨k,e1,hk,e2,e3⟩
    simp only at e1 e2
    subst e1;subst e2
    by_cases h:k<mem.length
    ·have hm:mem[k]?=some mem[k]:=List.getElem?_eq_getElem h
     obtain⟨z,hzk,hz2⟩:=hrow k h
     have hw:IntKind.i64.wrap ((k:Int)+1)=((k+1:Nat):Int):=wrap_succ h (by omega)
     by_cases hzz:(mem[k].length:Int)=z
     ·left
      have b2:((mem[k].length:Int) !=z)=false:=by simp[hzz]
      have hlen:(mem.take k++List.replicate (mem.length-k) ([]:List Int)).length=mem.length:=by
       rw[List.length_append,List.length_take,List.length_replicate];omega
      have c1:=chk_pos (p:=(0:Int)≤(k:Int)∧(k:Int)<((mem.take k++List.replicate (mem.length-k) ([]:List Int)).length:Int)) (by rw[hlen];omega)
      have c2:=chk_pos (p:=(k:Int).toNat<(mem.take k++List.replicate (mem.length-k) ([]:List Int)).length) (by rw[hlen];omega)
      refine⟨(((k+1:Nat):Int),mem.take (k+1)++List.replicate (mem.length-(k+1)) []),?_,⟨k+1,rfl,by omega,rfl,fun j r z' hj hr hz'=>?_⟩,by simp only;omega⟩
      ·simp only[F.nest_Copied_l1,dec_lt hm,cond_true,idx_nat hm,idx_nat hzk,Option.bind_some,b2,cond_false,clone_ok fu mem[k] (by omega),c1,c2,hw]
       rw[Int.toNat_natCast,setMid mem k h]
      ·by_cases hjk:j=k
       ·subst hjk
        rw[hm] at hr;cases hr
        rw[hzk] at hz';cases hz'
        exact hzz
       ·exact e3 j r z' (by omega) hr hz'
     ·right
      have b2:((mem[k].length:Int) !=z)=true:=by simpa using hzz
      refine⟨_,by simp only[F.nest_Copied_l1,dec_lt hm,cond_true,idx_nat hm,idx_nat hzk,Option.bind_some,b2],.inr ⟨rfl,fun hF=>hzz ((fits_iff hl).1 hF k _ _ hm hzk)⟩⟩
    ·right
     have:k=mem.length:=by omega
     subst this
     refine⟨Ex.brk (mem.take mem.length++List.replicate (mem.length-mem.length) []),by simp only[F.nest_Copied_l1,dec_end,cond_false],.inl ⟨?_,(fits_iff hl).2 fun j r z hr hz'=>e3 j r z (get_lt hr) hr hz'⟩⟩
     rw[List.take_length,Nat.sub_self];simp) fu (0,List.replicate (Int.toNat (mem.length:Int)) []) ⟨0,rfl,Nat.zero_le _,by simp,fun j r z hj=>by omega⟩ (by simp only;omega)
  have hc:F.nest_Copied fu n mem=bindE (fun r=>r) (some r) (fun m8=>some ((0:Int),m8)):=by
   unfold F.nest_Copied
   simp only[b,cond_false]
   rw[chk_pos]
   rotate_left
   ·omega
   rw[Option.bind_some,chk_pos (allNil_replicate _),Option.bind_some,h1]
  rcases h2 with ⟨rfl,hF⟩ | ⟨rfl,hF⟩
  ·exact .inl ⟨hF,hc⟩
  ·refine .inr ⟨hF,6,by decide,hc,?_⟩
   obtain⟨r,q1,q2⟩:=loopF_inv (body:=F.adjointref10_Fits_l1 fu n mem)
    (fun q:Int=>∃k:Nat,q=(k:Int)∧k≤mem.length∧∀(j:Nat) (r:List Int) (z:Int),j<k→mem[j]?=some r→n.Sizes[j]?=some z→(r.length:Int)=z)
    (fun q=>mem.length-q.toNat) (fun r=>r=Ex.ret (6:Int)) (by
     rintro i ⟨k,rfl,hk,e3⟩
     by_cases h:k<mem.length
     ·have hm:mem[k]?=some mem[k]:=List.getElem?_eq_getElem h
      obtain⟨z,hzk,hz2⟩:=hrow k h
      have hw:IntKind.i64.wrap ((k:Int)+1)=((k+1:Nat):Int):=wrap_succ h (by omega)
      by_cases hzz:(mem[k].length:Int)=z
      ·left
       have b2:((mem[k].length:Int) !=z)=false:=by simp[hzz]
       refine⟨((k+1:Nat):Int),by simp only[F.adjointref10_Fits_l1,dec_lt hm,cond_true,idx_nat hm,idx_nat hzk,Option.bind_some,b2,cond_false,hw],⟨k+1,rfl,by omega,fun j r z' hj hr hz'=>?_⟩,by omega⟩
       by_cases hjk:j=k
       ·subst hjk
        rw[hm] at hr;cases hr
        rw[hzk] at hz';cases hz'
        exact hzz
       ·exact e3 j r z' (by omega) hr hz'
      ·right
       have b2:((mem[k].length:Int) !=z)=true:=by simpa using hzz
       exact⟨_,by simp only[F.adjointref10_Fits_l1,dec_lt hm,cond_true,idx_nat hm,idx_nat hzk,Option.bind_some,b2],rfl⟩
     ·exfalso
      exact hF ((fits_iff hl).2 fun j r z hr hz'=>e3 j r z (by have:=get_lt hr;omega) hr hz')) fu 0 ⟨0,rfl,Nat.zero_le _,fun j r z hj=>by omega⟩ (by omega)
   subst q2
   unfold F.adjointref10_Fits
   simp only[b,cond_false]
   rw[q1];rfl
 ·have b:((mem.length:Int) !=(n.Sizes.length:Int))=true:=by simp;omega
  refine .inr ⟨fun h=>hl h.len,2,by decide,?_,?_⟩
  ·unfold F.nest_Copied;rw[b];rfl
  ·unfold F.adjointref10_Fits;rw[b];rfl
theorem fitsRef_ok (fu:Nat){n:SNest}(hs:n.Sizes.length≤1048576){mem:List (List Int)}(hF:Fits n mem) (hf:2000000<fu):F.adjointref10_Fits fu n mem=some 0:=by
 have hl:=hF.len
 have b:((mem.length:Int) !=(n.Sizes.length:Int))=false:=by simp[hl]
 have hloop:=loop_list (body:=F.adjointref10_Fits_l1 fu n mem) mem (fun (_:Unit) i=>i) (fun _ r=>some (.inl ())) (fun _=>Ex.brk ())
  (fun _ k r hr=>by
   have hw:=wrap_succ (get_lt hr) (by omega)
   have hzk:n.Sizes[k]?=some (n.Sizes[k]'(by have:=get_lt hr;omega)):=List.getElem?_eq_getElem _
   have he:=(fits_iff hl).1 hF k r _ hr hzk
   have b2:((r.length:Int) !=(n.Sizes[k]'(by have:=get_lt hr;omega)))=false:=by simp[he]
   simp only[F.adjointref10_Fits_l1,dec_lt hr,cond_true,idx_nat hr,idx_nat hzk,Option.bind_some,b2,cond_false,hw]
   rfl)
  (fun _=>by simp only[F.adjointref10_Fits_l1,dec_end,cond_false]) fu (by omega) ()
 rw[foldE_inl (fun _ _=>())] at hloop
 unfold F.adjointref10_Fits
 simp only[b,cond_false]
 rw[hloop];rfl
theorem copyRef_ok (fu:Nat){n:SNest}(hs:n.Sizes.length≤1048576) (hz:∀x∈n.Sizes,0≤x∧x≤65536){mem:List (List Int)}(hF:Fits n mem) (hf:2000000<fu):F.adjointref10_Copy fu mem=some mem:=by
 have hl:=hF.len
 have hfm:mem.flatMap (fun r=>[r])=mem:=by
  rw[←List.map_eq_flatMap];simp
 have:=acc_loop (body:=F.adjointref10_Copy_l1 fu mem) mem (fun out i=>(i,out)) (fun r=>[r]) (fun out=>out) 1048576 [] (by rw[hfm];simp only[List.length_nil];omega)
  (fun k r out hr hout=>by
   have hw:=wrap_succ (get_lt hr) (by omega)
   have hzk:n.Sizes[k]?=some (n.Sizes[k]'(by have:=get_lt hr;omega)):=List.getElem?_eq_getElem _
   have he:=(fits_iff hl).1 hF k r _ hr hzk
   have hb:=(hz _ (List.getElem_mem (by have:=get_lt hr;omega:k<n.Sizes.length))).2
   have c1:=chk_pos (p:=([]:List Int).length+r.length≤maxLen∧(([]:List Int).length+r.length)*8≤140737488355328) (by simp only[List.length_nil,maxLen];omega)
   have c2:=chk_pos (p:=0<[([]:List Int)++r].length∧out.length+[([]:List Int)++r].length≤maxLen∧(out.length+[([]:List Int)++r].length)*24≤140737488355328) (by simp only[List.length_singleton,maxLen] at *;omega)
   simp only[F.adjointref10_Copy_l1,dec_lt hr,cond_true,idx_nat hr,Option.bind_some,hw,c1,c2]
   rfl)
  (fun out=>by simp only[F.adjointref10_Copy_l1,dec_end,cond_false]) fu (by omega)
 unfold F.adjointref10_Copy
 rw[this,hfm];rfl
theorem same_ok (fu:Nat) (a:List (List Int)) (hl:a.length≤1048576) (hr:∀r∈a,r.length≤65536) (hf:2000000<fu):F.adjointref10_SameMemory fu a a=some true:=by
 have hloop:=loop_list (body:=F.adjointref10_SameMemory_l2 fu a a) a (fun (_:Unit) i=>i) (fun _ r=>some (.inl ())) (fun _=>Ex.brk ())
  (fun _ k r hk=>by
   have hw:=wrap_succ (get_lt hk) (by omega)
   have hrl:=hr r (List.mem_of_getElem? hk)
   have b:((r.length:Int) !=(r.length:Int))=false:=by simp
   have hin:=loop_list (body:=F.adjointref10_SameMemory_l1 fu a a (k:Int) r) r (fun (_:Unit) i=>i) (fun _ x=>some (.inl ())) (fun _=>Ex.brk ())
    (fun _ j x hj=>by
     have hw:=wrap_succ (get_lt hj) (by omega)
     have b:(x !=x)=false:=by simp
     simp only[F.adjointref10_SameMemory_l1,dec_lt hj,cond_true,idx_nat hk,idx_nat hj,Option.bind_some,b,cond_false,hw]
     rfl)
    (fun _=>by simp only[F.adjointref10_SameMemory_l1,dec_end,cond_false]) fu (by omega) ()
   rw[foldE_inl (fun _ _=>())] at hin
   simp only[F.adjointref10_SameMemory_l2,dec_lt hk,cond_true,idx_nat hk,Option.bind_some,b,cond_false,hin,hw]
   rfl)
  (fun _=>by simp only[F.adjointref10_SameMemory_l2,dec_end,cond_false]) fu (by omega) ()
 rw[foldE_inl (fun _ _=>())] at hloop
 have b:((a.length:Int) !=(a.length:Int))=false:=by simp
 unfold F.adjointref10_SameMemory
 simp only[b,cond_false]
 rw[hloop];rfl
end Go.DN
