/-
  Nest: the plain law: what is wrong; memory copied and compared; the law.
-/
import Derived.Test.YtfkigaldejbeiaaFvF
set_option linter.unusedSectionVars false
set_option linter.unusedSimpArgs false
set_option linter.unusedVariables false
namespace Go.DN
open Go.AM
def BO (d:Int):Bool:=decide (d<0)||decide (d>65536)
def ff:List Int→Int
 | []=>0
 | v::r=>if v≠0 then v else ff r
def zu (n:aO) (L:Int) (a:bF):Int:=if a.Array<0∨a.Array≥n.cz.length then 4 else fL a.At L
def sN (n:aO) (s:dh):Int:=if mM s.bI≠0 then mM s.bI else if kT s.Do<0 then 1 else if kT s.Do≠s.c9.length then 2 else ff ((s.cf::s.c9).map (zu n s.bI.ba.length))
def wN (n:aO):Int:=if n.cd.length>256 then 2 else if n.cz.any BO then 4 else ff (n.cd.map (sN n))
theorem xj {α ρ:Type}(f:α→Int) (h:Int→ρ):∀l:List α,jt (fun (_:Unit) x=>cond (f x !=0) (some (.inr (Ex.ret (h (f x))))) (some (.inl ()))) (fun _=>Ex.dS ()) () l=some (if ff (l.map f)=0 then Ex.dS () else Ex.ret (h (ff (l.map f))))
 | []=>by simp[jt,ff]
 | x::r=>by
  have ih:=xj f h r
  simp only[jt,aI,ff]
  by_cases hx:f x=0
  ·have hb:(f x !=0)=false:=by simp[hx]
   simp only[hb,cond_false,hx,ne_eq,not_true,if_false]
   exact ih
  ·have hb:(f x !=0)=true:=by simpa using hx
   simp only[hb,cond_true,hx,ne_eq,not_false_iff,if_true,if_false]
theorem Q9 (fu:Nat) (d:Int):F.mV fu d=some (BO d):=by
 unfold F.mV BO
 cases decide (d<0) <;> simp
theorem Il (fu:Nat) (s:List Int) (h63:s.length≤9223372036854775807) (hf:s.length<fu):F.iT fu s=some (s.any BO):=by
 obtain⟨r,h1,h2⟩:=Ar s (F.mV fu) BO (Q9 fu) h63 fu hf
 have h3:aB (F.qp fu s) fu 0=some r:=h1
 cases r with
 | dS _=>
  simp only at h2
  simp only[F.iT,F.lD,h3,eS,ae,h2]
  rfl
 | ret i=>
  simp only at h2
  simp only[F.iT,F.lD,h3,eS,ae,h2.2,id]
  simpa using h2.1
theorem Qi (fu:Nat) (d:Int):F.uH fu d=some (kT d):=by
 by_cases h1:d=1
 ·subst h1;rfl
 by_cases h2:d=2
 ·subst h2;rfl
 by_cases h9:d=9
 ·subst h9;rfl
 by_cases h3:d=3
 ·subst h3;rfl
 by_cases h4:d=4
 ·subst h4;rfl
 by_cases h5:d=5
 ·subst h5;rfl
 by_cases h6:d=6
 ·subst h6;rfl
 by_cases h7:d=7
 ·subst h7;rfl
 by_cases h10:d=10
 ·subst h10;rfl
 by_cases h8:d=8
 ·subst h8;rfl
 have b:∀c:Int,d≠c→(d==c)=false:=fun c h=>by simpa using h
 unfold F.uH kT
 simp only[b 1 h1,b 2 h2,b 3 h3,b 4 h4,b 5 h5,b 6 h6,b 7 h7,b 8 h8,b 9 h9,b 10 h10,cond_false,ae,h1,h2,h3,h4,h5,h6,h7,h8,h9,h10,if_false,or_self]
theorem Ol (d:Int):kT d≤3:=by
 unfold kT
 split
 ·omega
 ·split
  ·omega
  ·split
   ·omega
   ·split <;> omega
theorem Gq (fu:Nat) (n:aO) (s:dh) (hf:20<fu):F.nE fu n s=some (sN n s):=by
 unfold F.nE sN
 rw[AL fu s.bI (by omega),ae]
 by_cases hw:mM s.bI=0
 ·have b:(mM s.bI !=0)=false:=by simp[hw]
  have h4:=(Jv hw).len
  rw[if_neg (fun h=>h hw)]
  simp only[b,cond_false,Qi,ae]
  by_cases h0:kT s.Do<0
  ·have d:decide (kT s.Do<0)=true:=by simpa using h0
   rw[if_pos h0]
   simp only[d,cond_true]
  ·have d:decide (kT s.Do<0)=false:=by simpa using h0
   rw[if_neg h0]
   simp only[d,cond_false]
   by_cases h1:kT s.Do=s.c9.length
   ·have b1:(kT s.Do !=(s.c9.length:Int))=false:=by simp[h1]
    have h3:=Ol s.Do
    have c:=bK (p:=[s.cf].length+s.c9.length≤maxLen∧([s.cf].length+s.c9.length)*40≤140737488355328) (by simp only[cQ,maxLen];omega)
    have hloop:=jQ (body:=F.kR fu n s) ([s.cf]++s.c9) (fun (_:Unit) i=>i) (fun _ a=>cond (zu n s.bI.ba.length a !=0) (some (.inr (Ex.ret (id (zu n s.bI.ba.length a))))) (some (.inl ()))) (fun _=>Ex.dS ())
     (fun _ k a ha=>by
      have hw:=du (eU ha) (by simp only[ak,cQ];omega)
      simp only[F.kR,dec_lt ha,cond_true,bJ ha,ae,hw]
      unfold zu
      by_cases h0:a.Array<0
      ·have d:decide (a.Array<0)=true:=by simpa using h0
       simp only[d,cond_true,ae]
       rw[if_pos (Or.inl h0)];rfl
      ·have d:decide (a.Array<0)=false:=by simpa using h0
       by_cases h1:a.Array≥(n.cz.length:Int)
       ·have d1:decide (a.Array≥(n.cz.length:Int))=true:=by simpa using h1
        simp only[d,d1,cond_true,cond_false,ae]
        rw[if_pos (Or.inr h1)];rfl
       ·have d1:decide (a.Array≥(n.cz.length:Int))=false:=by simpa using h1
        simp only[d,d1,cond_false,ae,Gy fu a.At s.bI.ba.length (by omega) (by omega)]
        rw[if_neg (fun h=>h.elim h0 h1)]
        rcases fH (fL a.At s.bI.ba.length !=0) with h | h <;> simp only[h,cond_true,cond_false] <;> rfl)
     (fun _=>by simp only[F.kR,fg,cond_false]) fu (by simp only[ak,cQ];omega) ()
    rw[xj] at hloop
    rw[if_neg (fun h=>h h1)]
    simp only[b1,cond_false,c,ae,hloop]
    have e:List.map (zu n s.bI.ba.length) ([s.cf]++s.c9)=List.map (zu n s.bI.ba.length) (s.cf::s.c9):=rfl
    rw[e]
    by_cases h:ff (List.map (zu n s.bI.ba.length) (s.cf::s.c9))=0
    ·rw[if_pos h,h];rfl
    ·rw[if_neg h];rfl
   ·have b1:(kT s.Do !=(s.c9.length:Int))=true:=by simpa using h1
    rw[if_pos h1]
    simp only[b1,cond_true]
 ·have b:(mM s.bI !=0)=true:=by simpa using hw
  rw[if_pos hw]
  simp only[b,cond_true]
theorem yH (fu:Nat) (n:aO) (hs:n.cz.length≤1048576) (hf:2000000<fu):F.pN fu n=some (wN n):=by
 unfold F.pN wN
 by_cases h:n.cd.length>256
 ·have d:decide ((n.cd.length:Int)>256)=true:=by simp;omega
  simp only[d,cond_true,h,if_true]
 ·have d:decide ((n.cd.length:Int)>256)=false:=by simp;omega
  simp only[d,cond_false,h,if_false,Il fu n.cz (by omega) (by omega),ae]
  cases hb:n.cz.any BO with
  | true=>rfl
  | false=>
   have hloop:=jQ (body:=F.oC fu n) n.cd (fun (_:Unit) i=>i) (fun _ s=>cond (sN n s !=0) (some (.inr (Ex.ret (id (sN n s))))) (some (.inl ()))) (fun _=>Ex.dS ())
    (fun _ k s hk=>by
     have hw:=du (eU hk) (by omega)
     have he:(⟨(⟨s.bI.ba,s.bI.Rows⟩:bp),s.Do,s.Value,(⟨s.cf.Array,(⟨s.cf.At.cZ,s.cf.At.Const⟩:aT)⟩:bF),s.c9⟩:dh)=s:=rfl
     simp only[F.oC,dec_lt hk,cond_true,bJ hk,ae,hw,he,Gq fu n s (by omega)]
     rcases fH (sN n s !=0) with h | h <;> simp only[h,cond_true,cond_false] <;> rfl)
    (fun _=>by simp only[F.oC,fg,cond_false]) fu (by omega) ()
   rw[xj] at hloop
   simp only[cond_false,hloop]
   by_cases h:ff (List.map (sN n) n.cd)=0
   ·rw[if_pos h,h];rfl
   ·rw[if_neg h];rfl
end Go.DN
