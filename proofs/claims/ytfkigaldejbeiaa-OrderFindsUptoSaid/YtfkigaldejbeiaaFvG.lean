/-
  Nest: the plain law: what is wrong; memory copied and compared; the law.
-/
import Derived.Test.YtfkigaldejbeiaaFvF
set_option linter.unusedSectionVars false
set_option linter.unusedSimpArgs false
set_option linter.unusedVariables false
namespace Go.DN
open Go.AM
def badZ (d:Int):Bool:=decide (d<0)||decide (d>65536)
def firstW:List Int→Int
 | []=>0
 | v::r=>if v≠0 then v else firstW r
def accW (n:SNest) (L:Int) (a:SAccess):Int:=if a.Array<0∨a.Array≥n.Sizes.length then 4 else rowW a.At L
def stmtW (n:SNest) (s:SStmt):Int:=if wrongP s.Over≠0 then wrongP s.Over else if getsW s.Do<0 then 1 else if getsW s.Do≠s.Get.length then 2 else firstW ((s.Put::s.Get).map (accW n s.Over.Box.length))
def wN (n:SNest):Int:=if n.Stmts.length>256 then 2 else if n.Sizes.any badZ then 4 else firstW (n.Stmts.map (stmtW n))
theorem first_fold {α ρ:Type}(f:α→Int) (h:Int→ρ):∀l:List α,foldE (fun (_:Unit) x=>cond (f x !=0) (some (.inr (Ex.ret (h (f x))))) (some (.inl ()))) (fun _=>Ex.brk ()) () l=some (if firstW (l.map f)=0 then Ex.brk () else Ex.ret (h (firstW (l.map f))))
 | []=>by simp[foldE,firstW]
 | x::r=>by
  have ih:=first_fold f h r
  simp only[foldE,List.map_cons,firstW]
  by_cases hx:f x=0
  ·have hb:(f x !=0)=false:=by simp[hx]
   simp only[hb,cond_false,hx,ne_eq,not_true,if_false]
   exact ih
  ·have hb:(f x !=0)=true:=by simpa using hx
   simp only[hb,cond_true,hx,ne_eq,not_false_iff,if_true,if_false]
theorem nw1_ok (fu:Nat) (d:Int):F.nest_Wrong_1 fu d=some (badZ d):=by
 unfold F.nest_Wrong_1 badZ
 cases decide (d<0) <;> simp
theorem contains1_ok (fu:Nat) (s:List Int) (h63:s.length≤9223372036854775807) (hf:s.length<fu):F.slices_ContainsFunc fu s=some (s.any badZ):=by
 obtain⟨r,h1,h2⟩:=indexP_loop s (F.nest_Wrong_1 fu) badZ (nw1_ok fu) h63 fu hf
 have h3:loopF (F.slices_IndexFunc_l1 fu s) fu 0=some r:=h1
 cases r with
 | brk _=>
  simp only at h2
  simp only[F.slices_ContainsFunc,F.slices_IndexFunc,h3,bindE,Option.bind_some,h2]
  rfl
 | ret i=>
  simp only at h2
  simp only[F.slices_ContainsFunc,F.slices_IndexFunc,h3,bindE,Option.bind_some,h2.2,id]
  simpa using h2.1
theorem gets_ok (fu:Nat) (d:Int):F.nest_gets fu d=some (getsW d):=by
 by_cases h1:d=1
 ·subst h1;rfl
 by_cases h2:d=2
 ·subst h2;rfl
 by_cases h9:d=9
 ·subst h9;rfl
 by_cases h3:d=3
 ·subst h3;rfl
 by_cases h4:d=4
 ·subst h4;rfl
 by_cases h5:d=5
 ·subst h5;rfl
 by_cases h6:d=6
 ·subst h6;rfl
 by_cases h7:d=7
 ·subst h7;rfl
 by_cases h10:d=10
 ·subst h10;rfl
 by_cases h8:d=8
 ·subst h8;rfl
 have b:∀c:Int,d≠c→(d==c)=false:=fun c h=>by simpa using h
 unfold F.nest_gets getsW
 simp only[b 1 h1,b 2 h2,b 3 h3,b 4 h4,b 5 h5,b 6 h6,b 7 h7,b 8 h8,b 9 h9,b 10 h10,cond_false,Option.bind_some,h1,h2,h3,h4,h5,h6,h7,h8,h9,h10,if_false,or_self]
theorem takes_ok (fu:Nat) (d:Int):F.adjointref10_Takes fu d=some (getsW d):=gets_ok fu d
theorem getsW_le (d:Int):getsW d≤3:=by
 unfold getsW
 split
 ·omega
 ·split
  ·omega
  ·split
   ·omega
   ·split <;> omega
theorem access_ok (fu:Nat) (n:SNest) (a:SAccess) (L:Int) (hL:L≤4) (hf:10<fu):F.adjointref10_access fu n a L=some (accW n L a):=by
 unfold F.adjointref10_access accW
 by_cases h0:a.Array<0
 ·have d:decide (a.Array<0)=true:=by simpa using h0
  simp only[d,cond_true,Option.bind_some]
  rw[if_pos (Or.inl h0)]
 ·have d:decide (a.Array<0)=false:=by simpa using h0
  by_cases h1:a.Array≥(n.Sizes.length:Int)
  ·have d1:decide (a.Array≥(n.Sizes.length:Int))=true:=by simpa using h1
   simp only[d,d1,cond_true,cond_false,Option.bind_some]
   rw[if_pos (Or.inr h1)]
  ·have d1:decide (a.Array≥(n.Sizes.length:Int))=false:=by simpa using h1
   simp only[d,d1,cond_false,Option.bind_some,refRow_ok fu a.At L hL hf]
   rw[if_neg (fun h=>h.elim h0 h1)]
theorem statement_ok (fu:Nat) (n:SNest) (s:SStmt) (hf:20<fu):F.nest_statement fu n s=some (stmtW n s):=by
 unfold F.nest_statement stmtW
 rw[wrong_ok fu s.Over (by omega),Option.bind_some]
 by_cases hw:wrongP s.Over=0
 ·have b:(wrongP s.Over !=0)=false:=by simp[hw]
  have h4:=(good_of hw).len
  rw[if_neg (fun h=>h hw)]
  simp only[b,cond_false,gets_ok,Option.bind_some]
  by_cases h0:getsW s.Do<0
  ·have d:decide (getsW s.Do<0)=true:=by simpa using h0
   rw[if_pos h0]
   simp only[d,cond_true]
  ·have d:decide (getsW s.Do<0)=false:=by simpa using h0
   rw[if_neg h0]
   simp only[d,cond_false]
   by_cases h1:getsW s.Do=s.Get.length
   ·have b1:(getsW s.Do !=(s.Get.length:Int))=false:=by simp[h1]
    have h3:=getsW_le s.Do
    have c:=chk_pos (p:=[s.Put].length+s.Get.length≤maxLen∧([s.Put].length+s.Get.length)*40≤140737488355328) (by simp only[List.length_singleton,maxLen];omega)
    have hloop:=loop_list (body:=F.nest_statement_l1 fu n s) ([s.Put]++s.Get) (fun (_:Unit) i=>i) (fun _ a=>cond (accW n s.Over.Box.length a !=0) (some (.inr (Ex.ret (id (accW n s.Over.Box.length a))))) (some (.inl ()))) (fun _=>Ex.brk ())
     (fun _ k a ha=>by
      have hw:=wrap_succ (get_lt ha) (by simp only[List.length_append,List.length_singleton];omega)
      simp only[F.nest_statement_l1,dec_lt ha,cond_true,idx_nat ha,Option.bind_some,hw]
      unfold accW
      by_cases h0:a.Array<0
      ·have d:decide (a.Array<0)=true:=by simpa using h0
       simp only[d,cond_true,Option.bind_some]
       rw[if_pos (Or.inl h0)];rfl
      ·have d:decide (a.Array<0)=false:=by simpa using h0
       by_cases h1:a.Array≥(n.Sizes.length:Int)
       ·have d1:decide (a.Array≥(n.Sizes.length:Int))=true:=by simpa using h1
        simp only[d,d1,cond_true,cond_false,Option.bind_some]
        rw[if_pos (Or.inr h1)];rfl
       ·have d1:decide (a.Array≥(n.Sizes.length:Int))=false:=by simpa using h1
        simp only[d,d1,cond_false,Option.bind_some,row_ok fu a.At s.Over.Box.length (by omega) (by omega)]
        rw[if_neg (fun h=>h.elim h0 h1)]
        rcases Bool.eq_false_or_eq_true (rowW a.At s.Over.Box.length !=0) with h | h <;> simp only[h,cond_true,cond_false] <;> rfl)
     (fun _=>by simp only[F.nest_statement_l1,dec_end,cond_false]) fu (by simp only[List.length_append,List.length_singleton];omega) ()
    rw[first_fold] at hloop
    rw[if_neg (fun h=>h h1)]
    simp only[b1,cond_false,c,Option.bind_some,hloop]
    have e:List.map (accW n s.Over.Box.length) ([s.Put]++s.Get)=List.map (accW n s.Over.Box.length) (s.Put::s.Get):=rfl
    rw[e]
    by_cases h:firstW (List.map (accW n s.Over.Box.length) (s.Put::s.Get))=0
    ·rw[if_pos h,h];rfl
    ·rw[if_neg h];rfl
   ·have b1:(getsW s.Do !=(s.Get.length:Int))=true:=by simpa using h1
    rw[if_pos h1]
    simp only[b1,cond_true]
 ·have b:(wrongP s.Over !=0)=true:=by simpa using hw
  rw[if_pos hw]
  simp only[b,cond_true]
theorem nestWrong_ok (fu:Nat) (n:SNest) (hs:n.Sizes.length≤1048576) (hf:2000000<fu):F.nest_Wrong fu n=some (wN n):=by
 unfold F.nest_Wrong wN
 by_cases h:n.Stmts.length>256
 ·have d:decide ((n.Stmts.length:Int)>256)=true:=by simp;omega
  simp only[d,cond_true,h,if_true]
 ·have d:decide ((n.Stmts.length:Int)>256)=false:=by simp;omega
  simp only[d,cond_false,h,if_false,contains1_ok fu n.Sizes (by omega) (by omega),Option.bind_some]
  cases hb:n.Sizes.any badZ with
  | true=>rfl
  | false=>
   have hloop:=loop_list (body:=F.nest_Wrong_l1 fu n) n.Stmts (fun (_:Unit) i=>i) (fun _ s=>cond (stmtW n s !=0) (some (.inr (Ex.ret (id (stmtW n s))))) (some (.inl ()))) (fun _=>Ex.brk ())
    (fun _ k s hk=>by
     have hw:=wrap_succ (get_lt hk) (by omega)
     have he:(⟨(⟨s.Over.Box,s.Over.Rows⟩:SPoints),s.Do,s.Value,(⟨s.Put.Array,(⟨s.Put.At.Coef,s.Put.At.Const⟩:SRow)⟩:SAccess),s.Get⟩:SStmt)=s:=rfl
     simp only[F.nest_Wrong_l1,dec_lt hk,cond_true,idx_nat hk,Option.bind_some,hw,he,statement_ok fu n s (by omega)]
     rcases Bool.eq_false_or_eq_true (stmtW n s !=0) with h | h <;> simp only[h,cond_true,cond_false] <;> rfl)
    (fun _=>by simp only[F.nest_Wrong_l1,dec_end,cond_false]) fu (by omega) ()
   rw[first_fold] at hloop
   simp only[cond_false,hloop]
   by_cases h:firstW (List.map (stmtW n) n.Stmts)=0
   ·rw[if_pos h,h];rfl
   ·rw[if_neg h];rfl
end Go.DN
