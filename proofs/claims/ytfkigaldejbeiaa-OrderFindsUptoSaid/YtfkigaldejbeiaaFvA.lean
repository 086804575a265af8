/-
  Points: the plain law: what is wrong with a set; its points; the walk over them.
-/
import Derived.Test.YtfkigaldejbeiaaOwF
import Derived.Test.YtfkigaldejbeiaaMgB
set_option linter.unusedSectionVars false
set_option linter.unusedSimpArgs false
set_option linter.unusedVariables false
namespace Go.DN
open Go.AM
set_option linter.unusedVariables false
def badC (c:Int):Bool:=decide (c < -1048576)||decide (c>1048576)
def badB (d:Int):Bool:=decide (d<0)||decide (d>4096)
def rowW (r:SRow) (v:Int):Int:=if (r.Coef.length:Int)≠v then 6 else if badC r.Const||r.Coef.any badC then 4 else 0
def rowsW (v:Int):List SRow→Int
 | []=>0
 | r::rs=>if rowW r v≠0 then rowW r v else rowsW v rs
def prodL:Int→List Int→Int
 | n,[]=>n
 | n,x::r=>prodL (n*x) r
def wrongP (p:SPoints):Int:=
 if p.Box.length>4 then 3 else if p.Box.any badB then 4 else if prodL 1 p.Box>4096 then 5 else if p.Rows.length>8 then 2 else rowsW p.Box.length p.Rows
theorem any_fold {α γ:Type}(bad:α→Bool) (v:γ):∀(l:List α),foldE (fun (_:Unit) x=>cond (bad x) (some (.inr (Ex.ret v))) (some (.inl ()))) (fun _=>Ex.brk ()) () l=some (if l.any bad then Ex.ret v else Ex.brk ())
 | []=>by simp[foldE]
 | x::r=>by
  have ih:=any_fold bad v r
  simp only[foldE,List.any_cons]
  rcases Bool.eq_false_or_eq_true (bad x) with h | h
  ·simp[h]
  ·simpa[h] using ih
theorem row1_ok (fu:Nat) (d:Int):F.points_Row_1 fu d=some (badC d):=by
 unfold F.points_Row_1 badC
 cases decide (d < -1048576) <;> simp
theorem containsFunc_ok (fu:Nat) (s:List Int) (h63:s.length≤9223372036854775807) (hf:s.length<fu):F.slices_ContainsFunc_2 fu s=some (s.any badC):=by
 obtain⟨r,h1,h2⟩:=indexP_loop s (F.points_Row_1 fu) badC (row1_ok fu) h63 fu hf
 have h3:loopF (F.slices_IndexFunc_2_l1 fu s) fu 0=some r:=h1
 cases r with
 | brk _=>
  simp only at h2
  simp only[F.slices_ContainsFunc_2,F.slices_IndexFunc_2,h3,bindE,Option.bind_some,h2]
  rfl
 | ret i=>
  simp only at h2
  simp only[F.slices_ContainsFunc_2,F.slices_IndexFunc_2,h3,bindE,Option.bind_some,h2.2,id]
  simpa using h2.1
theorem row_ok (fu:Nat) (r:SRow) (v:Int) (hv:v≤4) (hf:10<fu):F.points_Row fu r v=some (rowW r v):=by
 unfold F.points_Row rowW
 by_cases h:(r.Coef.length:Int)=v
 ·have:((r.Coef.length:Int) !=v)=false:=by simpa using h
  simp only[this,cond_false,row1_ok,Option.bind_some,containsFunc_ok fu _ (show r.Coef.length≤9223372036854775807 by omega) (by omega)]
  cases badC r.Const <;> cases r.Coef.any badC <;> simp[h]
 ·have:((r.Coef.length:Int) !=v)=true:=by simpa using h
  simp[this,h]
theorem refRow_ok (fu:Nat) (r:SRow) (v:Int) (hv:v≤4) (hf:10<fu):F.adjointref9_Row fu r v=some (rowW r v):=by
 unfold F.adjointref9_Row rowW
 by_cases h:(r.Coef.length:Int)=v
 ·have h0:((r.Coef.length:Int) !=v)=false:=by simpa using h
  have hc:=chk_pos (p:=(List.length [r.Const])+(List.length r.Coef)≤maxLen∧((List.length [r.Const])+(List.length r.Coef))*8≤140737488355328) (by simp only[List.length_singleton,maxLen];omega)
  simp only[h0,cond_false,hc,Option.bind_some]
  have hl:([r.Const]++r.Coef).length=r.Coef.length+1:=by simp
  have hloop:=loop_list (body:=F.adjointref9_Row_l1 fu r) ([r.Const]++r.Coef) (fun (_:Unit) i=>i)
   (fun _ x=>cond (badC x) (some (.inr (Ex.ret (4:Int)))) (some (.inl ()))) (fun _=>Ex.brk ())
   (fun z k x hx=>by
    have hw:=wrap_succ (get_lt hx) (by omega)
    simp only[F.adjointref9_Row_l1,dec_lt hx,cond_true,idx_nat hx,Option.bind_some,hw]
    unfold badC
    cases decide (x < -1048576) <;> cases decide (x>1048576) <;> rfl)
   (fun n=>by simp only[F.adjointref9_Row_l1,dec_end,cond_false]) fu (by omega) ()
  rw[hloop]
  rw[any_fold]
  simp only[List.singleton_append,List.any_cons]
  rcases Bool.eq_false_or_eq_true (badC r.Const||r.Coef.any badC) with h2 | h2 <;> simp[h,h2,bindE]
 ·have:((r.Coef.length:Int) !=v)=true:=by simpa using h
  simp[this,h]
theorem pow_ran (j:Nat) (h:j≤4):(4096:Int)^j≤281474976710656:=by
 match j,h with
 | 0,_=>decide
 | 1,_=>decide
 | 2,_=>decide
 | 3,_=>decide
 | 4,_=>decide
theorem prod_fold (ρ:Type) (e:Int→ρ):∀(l:List Int) (n:Int),(∀x∈l,0≤x∧x≤4096)→∀j,l.length+j≤4→0≤n→n≤4096^j→
  foldE (fun n x=>some (.inl (IntKind.i64.wrap (n*x)))) e n l=some (e (prodL n l))
 | [],n,_,_,_,_,_=>rfl
 | x::r,n,hr,j,hj,h0,h1=>by
  have hx:=hr x (List.mem_cons_self ..)
  have h2:n*x≤4096^(j+1):=by
   have:=Int.mul_le_mul h1 hx.2 hx.1 (by exact Int.le_of_lt (Int.pow_pos (by decide)))
   rwa[Int.pow_succ]
  simp only[List.length_cons] at hj
  have h3:=pow_ran (j+1) (by omega)
  have hw:IntKind.i64.wrap (n*x)=n*x:=i64 (by have:=Int.mul_nonneg h0 hx.1;omega) (by omega)
  simp only[foldE,hw,prodL]
  have:=prod_fold ρ e r (n*x) (fun y hy=>hr y (List.mem_cons_of_mem _ hy)) (j+1) (by omega) (Int.mul_nonneg h0 hx.1) h2
  simpa[hw] using this
theorem wrong_ok (fu:Nat) (p:SPoints) (hf2:10<fu):F.points_Wrong fu p=some (wrongP p):=by
 unfold F.points_Wrong wrongP
 by_cases h4:p.Box.length>4
 ·have:decide ((p.Box.length:Int)>4)=true:=by simp;omega
  simp only[this,cond_true,if_pos h4]
 ·have:decide ((p.Box.length:Int)>4)=false:=by simp;omega
  simp only[this,cond_false,if_neg h4]
  have hloop:=loop_list (body:=F.points_Wrong_l1 fu p) p.Box (fun (_:Unit) i=>i)
   (fun _ x=>cond (badB x) (some (.inr (Ex.ret (4:Int)))) (some (.inl ()))) (fun _=>Ex.brk ())
   (fun z k x hx=>by
    have hw:=wrap_succ (get_lt hx) (by omega)
    simp only[F.points_Wrong_l1,dec_lt hx,cond_true,idx_nat hx,Option.bind_some,hw]
    unfold badB
    cases decide (x<0) <;> cases decide (x>4096) <;> rfl)
   (fun n=>by simp only[F.points_Wrong_l1,dec_end,cond_false]) fu (by omega) ()
  rw[hloop]
  rw[any_fold]
  cases hb:p.Box.any badB with
  | true=>simp[bindE]
  | false=>
   have hg:∀x∈p.Box,0≤x∧x≤4096:=fun x hx=>by
    have:=List.any_eq_false.1 hb x hx
    simp[badB] at this
    omega
   have hloop2:=loop_list (body:=F.points_Wrong_l2 fu p) p.Box (fun n i=>(n,i))
    (fun n x=>some (.inl (IntKind.i64.wrap (n*x)))) (fun n=>n)
    (fun n k x hx=>by
     have hw:=wrap_succ (get_lt hx) (by omega)
     simp only[F.points_Wrong_l2,dec_lt hx,cond_true,idx_nat hx,Option.bind_some,hw]
     rfl)
    (fun n=>by simp only[F.points_Wrong_l2,dec_end,cond_false]) fu (by omega) 1
   rw[prod_fold _ _ p.Box 1 hg 0 (by omega) (by decide) (by decide)] at hloop2
   simp only[Bool.false_eq_true,if_false,bindE,hloop2,Option.bind_some]
   by_cases h5:prodL 1 p.Box>4096
   ·simp[h5]
   ·simp only[h5,decide_false,cond_false,if_false]
    by_cases h8:p.Rows.length>8
    ·have:decide ((p.Rows.length:Int)>8)=true:=by simp;omega
     simp only[this,cond_true,if_pos h8]
    ·have:decide ((p.Rows.length:Int)>8)=false:=by simp;omega
     simp only[this,cond_false,if_neg h8]
     have hloop3:=loop_list (body:=F.points_Wrong_l3 fu p) p.Rows (fun (_:Unit) i=>i)
      (fun _ r=>cond (rowW r p.Box.length !=0) (some (.inr (Ex.ret (rowW r p.Box.length)))) (some (.inl ()))) (fun _=>Ex.brk ())
      (fun z k r hx=>by
       have hw:=wrap_succ (get_lt hx) (by omega)
       have hm:=List.mem_of_getElem? hx
       simp only[F.points_Wrong_l3,dec_lt hx,cond_true,idx_nat hx,Option.bind_some,hw,row_ok fu r _ (show(p.Box.length:Int)≤4 by omega) hf2]
       cases rowW r p.Box.length !=0 <;> rfl)
      (fun n=>by simp only[F.points_Wrong_l3,dec_end,cond_false]) fu (by omega) ()
     rw[hloop3]
     have key3:∀(l:List SRow),foldE (fun (_:Unit) r=>cond (rowW r p.Box.length !=0) (some (.inr (Ex.ret (rowW r p.Box.length)))) (some (.inl ()))) (fun _=>Ex.brk ()) () l=some (if rowsW p.Box.length l≠0 then Ex.ret (rowsW p.Box.length l) else Ex.brk ()):=by
      intro l
      induction l with
      | nil=>simp[foldE,rowsW]
      | cons x r ih=>
       simp only[foldE,rowsW]
       by_cases h:rowW x p.Box.length=0
       ·simpa[h] using ih
       ·have:(rowW x p.Box.length !=0)=true:=by simpa using h
        simp[h,this]
     rw[key3]
     by_cases h:rowsW p.Box.length p.Rows=0 <;> simp[h]
theorem refWrong_ok (fu:Nat) (p:SPoints) (hf2:10<fu):F.adjointref9_Wrong fu p=some (wrongP p):=by
 unfold F.adjointref9_Wrong wrongP
 by_cases h4:p.Box.length>4
 ·have:decide ((p.Box.length:Int)>4)=true:=by simp;omega
  simp only[this,cond_true,if_pos h4]
 ·have:decide ((p.Box.length:Int)>4)=false:=by simp;omega
  simp only[this,cond_false,if_neg h4]
  have hloop:=loop_list (body:=F.adjointref9_Wrong_l1 fu p) p.Box (fun n i=>(n,i))
   (fun n x=>cond (badB x) (some (.inr (Ex.ret (4:Int)))) (some (.inl (IntKind.i64.wrap (n*x))))) (fun n=>Ex.brk n)
   (fun z k x hx=>by
    have hw:=wrap_succ (get_lt hx) (by omega)
    simp only[F.adjointref9_Wrong_l1,dec_lt hx,cond_true,idx_nat hx,Option.bind_some,hw]
    unfold badB
    cases decide (x<0) <;> cases decide (x>4096) <;> rfl)
   (fun n=>by simp only[F.adjointref9_Wrong_l1,dec_end,cond_false]) fu (by omega) 1
  rw[hloop]
  have key:∀(l:List Int) (n:Int),∃m,foldE (fun n x=>cond (badB x) (some (.inr (Ex.ret (4:Int)))) (some (.inl (IntKind.i64.wrap (n*x))))) (fun n=>Ex.brk n) n l=some (if l.any badB then Ex.ret 4 else Ex.brk m)∧(l.any badB=false→foldE (fun n x=>some (.inl (IntKind.i64.wrap (n*x)))) (fun n:Int=>n) n l=some m):=by
   intro l
   induction l with
   | nil=>intro n;exact⟨n,by simp[foldE],fun _=>rfl⟩
   | cons x r ih=>
    intro n
    simp only[foldE,List.any_cons]
    rcases Bool.eq_false_or_eq_true (badB x) with h | h
    ·exact⟨0,by simp[h]⟩
    ·simpa[h] using ih (IntKind.i64.wrap (n*x))
  obtain⟨m,k1,k2⟩:=key p.Box 1
  rw[k1]
  cases hb:p.Box.any badB with
  | true=>simp[bindE]
  | false=>
   have hg:∀x∈p.Box,0≤x∧x≤4096:=fun x hx=>by
    have:=List.any_eq_false.1 hb x hx
    simp[badB] at this
    omega
   have k3:=k2 hb
   rw[prod_fold _ _ p.Box 1 hg 0 (by omega) (by decide) (by decide)] at k3
   cases k3
   simp only[Bool.false_eq_true,if_false,bindE]
   by_cases h5:prodL 1 p.Box>4096
   ·simp[h5]
   ·simp only[h5,decide_false,cond_false,if_false]
    by_cases h8:p.Rows.length>8
    ·have:decide ((p.Rows.length:Int)>8)=true:=by simp;omega
     simp only[this,cond_true,if_pos h8]
    ·have:decide ((p.Rows.length:Int)>8)=false:=by simp;omega
     simp only[this,cond_false,if_neg h8]
     have hloop3:=loop_list (body:=F.adjointref9_Wrong_l2 fu p) p.Rows (fun (_:Unit) i=>i)
      (fun _ r=>cond (rowW r p.Box.length !=0) (some (.inr (Ex.ret (rowW r p.Box.length)))) (some (.inl ()))) (fun _=>Ex.brk ())
      (fun z k r hx=>by
       have hw:=wrap_succ (get_lt hx) (by omega)
       simp only[F.adjointref9_Wrong_l2,dec_lt hx,cond_true,idx_nat hx,Option.bind_some,hw,refRow_ok fu r _ (show(p.Box.length:Int)≤4 by omega) hf2]
       cases rowW r p.Box.length !=0 <;> rfl)
      (fun n=>by simp only[F.adjointref9_Wrong_l2,dec_end,cond_false]) fu (by omega) ()
     rw[hloop3]
     have key3:∀(l:List SRow),foldE (fun (_:Unit) r=>cond (rowW r p.Box.length !=0) (some (.inr (Ex.ret (rowW r p.Box.length)))) (some (.inl ()))) (fun _=>Ex.brk ()) () l=some (if rowsW p.Box.length l≠0 then Ex.ret (rowsW p.Box.length l) else Ex.brk ()):=by
      intro l
      induction l with
      | nil=>simp[foldE,rowsW]
      | cons x r ih=>
       simp only[foldE,rowsW]
       by_cases h:rowW x p.Box.length=0
       ·simpa[h] using ih
       ·have:(rowW x p.Box.length !=0)=true:=by simpa using h
        simp[h,this]
     rw[key3]
     by_cases h:rowsW p.Box.length p.Rows=0 <;> simp[h]
end Go.DN
