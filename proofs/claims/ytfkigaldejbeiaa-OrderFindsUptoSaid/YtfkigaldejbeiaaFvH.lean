/-
  Nest: the plain law: the reference's judgement; memory copied and compared; the law.
-/
import Derived.Test.YtfkigaldejbeiaaFvG
set_option linter.unusedSectionVars false
set_option linter.unusedSimpArgs false
set_option linter.unusedVariables false
namespace Go.DN
open Go.AM
theorem refStmts_ok (fu:Nat) (n:SNest) (hl:n.Stmts.length≤256) (hf:2000000<fu):
  loopF (F.adjointref10_Wrong_l3 fu n) fu 0=some (if firstW (n.Stmts.map (stmtW n))=0 then Ex.brk () else Ex.ret (id (firstW (n.Stmts.map (stmtW n))))):=by
 have hloop:=loop_list (body:=F.adjointref10_Wrong_l3 fu n) n.Stmts (fun (_:Unit) i=>i) (fun _ s=>cond (stmtW n s !=0) (some (.inr (Ex.ret (id (stmtW n s))))) (some (.inl ()))) (fun _=>Ex.brk ())
  (fun _ k s hk=>by
   have hw:=wrap_succ (get_lt hk) (by omega)
   simp only[F.adjointref10_Wrong_l3,dec_lt hk,cond_true,idx_nat hk,Option.bind_some,hw,refWrong_ok fu s.Over (by omega),takes_ok]
   unfold stmtW
   by_cases h0:wrongP s.Over=0
   ·have b:(wrongP s.Over !=0)=false:=by simp[h0]
    have h4:=(good_of h0).len
    rw[if_neg (fun h=>h h0)]
    simp only[b,cond_false]
    by_cases h1:getsW s.Do<0
    ·have d:decide (getsW s.Do<0)=true:=by simpa using h1
     rw[if_pos h1]
     simp only[d,cond_true]
     rfl
    ·have d:decide (getsW s.Do<0)=false:=by simpa using h1
     rw[if_neg h1]
     simp only[d,cond_false]
     by_cases h2:getsW s.Do=s.Get.length
     ·have b1:(getsW s.Do !=(s.Get.length:Int))=false:=by simp[h2]
      have h3:=getsW_le s.Do
      rw[if_neg (fun h=>h h2)]
      simp only[b1,cond_false,access_ok fu n s.Put s.Over.Box.length (by omega) (by omega),Option.bind_some]
      rw[List.map_cons]
      unfold firstW
      by_cases h5:accW n s.Over.Box.length s.Put=0
      ·have b2:(accW n s.Over.Box.length s.Put !=0)=false:=by simp[h5]
       rw[if_neg (fun h=>h h5)]
       simp only[b2,cond_false]
       have hin:=loop_list (body:=F.adjointref10_Wrong_l2 fu n s) s.Get (fun (_:Unit) i=>i) (fun _ a=>cond (accW n s.Over.Box.length a !=0) (some (.inr (Ex.ret (Sum.inr (α:=Int) (Ex.ret (β:=Unit) (accW n s.Over.Box.length a)))))) (some (.inl ()))) (fun _=>Ex.brk ())
        (fun _ j a ha=>by
         have hw:=wrap_succ (get_lt ha) (by omega)
         simp only[F.adjointref10_Wrong_l2,dec_lt ha,cond_true,idx_nat ha,Option.bind_some,hw,access_ok fu n a s.Over.Box.length (by omega) (by omega)]
         rcases Bool.eq_false_or_eq_true (accW n s.Over.Box.length a !=0) with h | h <;> simp only[h,cond_true,cond_false] <;> rfl)
        (fun _=>by simp only[F.adjointref10_Wrong_l2,dec_end,cond_false]) fu (by omega) ()
       rw[first_fold (accW n s.Over.Box.length) (fun v=>Sum.inr (α:=Int) (Ex.ret (β:=Unit) v))] at hin
       simp only[hin]
       by_cases h:firstW (List.map (accW n s.Over.Box.length) s.Get)=0
       ·rw[if_pos h,h];rfl
       ·have b3:(firstW (List.map (accW n s.Over.Box.length) s.Get) !=0)=true:=by simpa using h
        rw[if_neg h,b3];rfl
      ·have b2:(accW n s.Over.Box.length s.Put !=0)=true:=by simpa using h5
       rw[if_pos h5]
       simp only[b2,cond_true]
       rfl
     ·have b1:(getsW s.Do !=(s.Get.length:Int))=true:=by simpa using h2
      rw[if_pos h2]
      simp only[b1,cond_true]
      rfl
   ·have b:(wrongP s.Over !=0)=true:=by simpa using h0
    rw[if_pos h0]
    simp only[b,cond_true]
    rfl)
  (fun _=>by simp only[F.adjointref10_Wrong_l3,dec_end,cond_false]) fu (by omega) ()
 rw[first_fold] at hloop
 exact hloop
theorem refWrong10_ok (fu:Nat) (n:SNest) (hs:n.Sizes.length≤1048576) (hf:2000000<fu):F.adjointref10_Wrong fu n=some (wN n):=by
 unfold F.adjointref10_Wrong wN
 by_cases h:n.Stmts.length>256
 ·have d:decide ((n.Stmts.length:Int)>256)=true:=by simp;omega
  rw[if_pos h]
  simp only[d,cond_true]
 ·have d:decide ((n.Stmts.length:Int)>256)=false:=by simp;omega
  rw[if_neg h]
  simp only[d,cond_false]
  have hloop:=loop_list (body:=F.adjointref10_Wrong_l1 fu n) n.Sizes (fun (_:Unit) i=>i) (fun _ x=>cond (badZ x) (some (.inr (Ex.ret (4:Int)))) (some (.inl ()))) (fun _=>Ex.brk ())
   (fun _ k x hx=>by
    have hw:=wrap_succ (get_lt hx) (by omega)
    simp only[F.adjointref10_Wrong_l1,dec_lt hx,cond_true,idx_nat hx,Option.bind_some,hw]
    unfold badZ
    cases decide (x<0) <;> cases decide (x>65536) <;> rfl)
   (fun _=>by simp only[F.adjointref10_Wrong_l1,dec_end,cond_false]) fu (by omega) ()
  rw[any_fold] at hloop
  rw[hloop]
  cases hb:n.Sizes.any badZ with
  | true=>rfl
  | false=>
   have h3:=refStmts_ok fu n (by omega) hf
   simp only[Bool.false_eq_true,if_false,bindE,h3]
   by_cases h:firstW (List.map (stmtW n) n.Stmts)=0
   ·rw[if_pos h,h]
   ·rw[if_neg h];rfl
theorem firstW_zero:∀{l:List Int},firstW l=0→∀v∈l,v=0
 | [],_,_,h=>by cases h
 | x::r,h,v,hm=>by
  unfold firstW at h
  split at h
  ·rename_i hx;exact absurd h hx
  ·rename_i hx
   rcases List.mem_cons.1 hm with rfl | hm
   ·exact Classical.not_not.1 hx
   ·exact firstW_zero h v hm
theorem good_all {n:SNest}(h:wN n=0):n.Stmts.length≤256∧(∀x∈n.Sizes,0≤x∧x≤65536)∧∀s∈n.Stmts,GoodS n s:=by
 unfold wN at h
 split at h
 ·cases h
 ·rename_i hl
  split at h
  ·cases h
  ·rename_i hb
   simp only[Bool.not_eq_true] at hb
   refine⟨by omega,fun x hx=>?_,fun s hs=>?_⟩
   ·have:=List.any_eq_false.1 hb x hx
    simp[badZ] at this
    omega
   ·have h0:=firstW_zero h (stmtW n s) (List.mem_map.2 ⟨s,hs,rfl⟩)
    unfold stmtW at h0
    split at h0
    ·rename_i h1;exact absurd h0 h1
    ·rename_i h1
     have h1:=Classical.not_not.1 h1
     split at h0
     ·cases h0
     ·split at h0
      ·cases h0
      ·rename_i h3
       have h3:=Classical.not_not.1 h3
       have hacc:∀a∈s.Put::s.Get,GoodA n s.Over a:=fun a ha=>by
        have:=firstW_zero h0 _ (List.mem_map.2 ⟨a,ha,rfl⟩)
        unfold accW at this
        split at this
        ·cases this
        ·rename_i hn
         exact⟨by omega,by omega,this⟩
       exact⟨h1,good_of h1,h3,hacc _ List.mem_cons_self,fun a ha=>hacc a (List.mem_cons_of_mem _ ha)⟩
end Go.DN
