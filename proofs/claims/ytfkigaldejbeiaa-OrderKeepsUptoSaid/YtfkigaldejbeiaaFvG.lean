/-
  Nest: the plain law: what is wrong; memory copied and compared; the law.
-/
import Derived.Test.YtfkigaldejbeiaaFvF
set_option linter.unusedSectionVars false
set_option linter.unusedSimpArgs false
set_option linter.unusedVariables false
namespace Go.DN
open Go.AM
def Bm (d:Int):Bool:=decide (d<0)||decide (d>65536)
def fc:List Int→Int
 | []=>0
 | v::r=>if v≠0 then v else fc r
def y9 (n:aP) (L:Int) (a:bF):Int:=if a.Array<0∨a.Array≥n.cA.length then 4 else fK a.At L
def su (n:aP) (s:dh):Int:=if mI s.bI≠0 then mI s.bI else if kR s.Do<0 then 1 else if kR s.Do≠s.c9.length then 2 else fc ((s.cf::s.c9).map (y9 n s.bI.ba.length))
def wN (n:aP):Int:=if n.cd.length>256 then 2 else if n.cA.any Bm then 4 else fc (n.cd.map (su n))
theorem wY {α ρ:Type}(f:α→Int) (h:Int→ρ):∀l:List α,jo (fun (_:Unit) x=>cond (f x !=0) (some (.inr (Ex.ret (h (f x))))) (some (.inl ()))) (fun _=>Ex.dS ()) () l=some (if fc (l.map f)=0 then Ex.dS () else Ex.ret (h (fc (l.map f))))
 | []=>by simp[jo,fc]
 | x::r=>by
  have ih:=wY f h r
  simp only[jo,aH,fc]
  by_cases hx:f x=0
  ·have hb:(f x !=0)=false:=by simp[hx]
   simp only[hb,cond_false,hx,ne_eq,not_true,if_false]
   exact ih
  ·have hb:(f x !=0)=true:=by simpa using hx
   simp only[hb,cond_true,hx,ne_eq,not_false_iff,if_true,if_false]
theorem QI (fu:Nat) (d:Int):F.mR fu d=some (Bm d):=by
 unfold F.mR Bm
 cases decide (d<0) <;> simp
theorem HO (fu:Nat) (s:List Int) (h63:s.length≤9223372036854775807) (hf:s.length<fu):F.iQ fu s=some (s.any Bm):=by
 obtain⟨r,h1,h2⟩:=z9 s (F.mR fu) Bm (QI fu) h63 fu hf
 have h3:aB (F.qg fu s) fu 0=some r:=h1
 cases r with
 | dS _=>
  simp only at h2
  simp only[F.iQ,F.lB,h3,eR,ab,h2]
  rfl
 | ret i=>
  simp only at h2
  simp only[F.iQ,F.lB,h3,eR,ab,h2.2,id]
  simpa using h2.1
theorem PQ (fu:Nat) (d:Int):F.um fu d=some (kR d):=by
 by_cases h1:d=1
 ·subst h1;rfl
 by_cases h2:d=2
 ·subst h2;rfl
 by_cases h9:d=9
 ·subst h9;rfl
 by_cases h3:d=3
 ·subst h3;rfl
 by_cases h4:d=4
 ·subst h4;rfl
 by_cases h5:d=5
 ·subst h5;rfl
 by_cases h6:d=6
 ·subst h6;rfl
 by_cases h7:d=7
 ·subst h7;rfl
 by_cases h10:d=10
 ·subst h10;rfl
 by_cases h8:d=8
 ·subst h8;rfl
 have b:∀c:Int,d≠c→(d==c)=false:=fun c h=>by simpa using h
 unfold F.um kR
 simp only[b 1 h1,b 2 h2,b 3 h3,b 4 h4,b 5 h5,b 6 h6,b 7 h7,b 8 h8,b 9 h9,b 10 h10,cond_false,ab,h1,h2,h3,h4,h5,h6,h7,h8,h9,h10,if_false,or_self]
theorem NQ (d:Int):kR d≤3:=by
 unfold kR
 split
 ·omega
 ·split
  ·omega
  ·split
   ·omega
   ·split <;> omega
theorem FW (fu:Nat) (n:aP) (s:dh) (hf:20<fu):F.nz fu n s=some (su n s):=by
 unfold F.nz su
 rw[Ar fu s.bI (by omega),ab]
 by_cases hw:mI s.bI=0
 ·have b:(mI s.bI !=0)=false:=by simp[hw]
  have h4:=(I3 hw).len
  rw[if_neg (fun h=>h hw)]
  simp only[b,cond_false,PQ,ab]
  by_cases h0:kR s.Do<0
  ·have d:decide (kR s.Do<0)=true:=by simpa using h0
   rw[if_pos h0]
   simp only[d,cond_true]
  ·have d:decide (kR s.Do<0)=false:=by simpa using h0
   rw[if_neg h0]
   simp only[d,cond_false]
   by_cases h1:kR s.Do=s.c9.length
   ·have b1:(kR s.Do !=(s.c9.length:Int))=false:=by simp[h1]
    have h3:=NQ s.Do
    have c:=bK (p:=[s.cf].length+s.c9.length≤maxLen∧([s.cf].length+s.c9.length)*40≤140737488355328) (by simp only[cQ,maxLen];omega)
    have hloop:=jO (body:=F.kP fu n s) ([s.cf]++s.c9) (fun (_:Unit) i=>i) (fun _ a=>cond (y9 n s.bI.ba.length a !=0) (some (.inr (Ex.ret (id (y9 n s.bI.ba.length a))))) (some (.inl ()))) (fun _=>Ex.dS ())
     (fun _ k a ha=>by
      have hw:=du (eT ha) (by simp only[aj,cQ];omega)
      simp only[F.kP,dec_lt ha,cond_true,bJ ha,ab,hw]
      unfold y9
      by_cases h0:a.Array<0
      ·have d:decide (a.Array<0)=true:=by simpa using h0
       simp only[d,cond_true,ab]
       rw[if_pos (Or.inl h0)];rfl
      ·have d:decide (a.Array<0)=false:=by simpa using h0
       by_cases h1:a.Array≥(n.cA.length:Int)
       ·have d1:decide (a.Array≥(n.cA.length:Int))=true:=by simpa using h1
        simp only[d,d1,cond_true,cond_false,ab]
        rw[if_pos (Or.inr h1)];rfl
       ·have d1:decide (a.Array≥(n.cA.length:Int))=false:=by simpa using h1
        simp only[d,d1,cond_false,ab,F4 fu a.At s.bI.ba.length (by omega) (by omega)]
        rw[if_neg (fun h=>h.elim h0 h1)]
        rcases fG (fK a.At s.bI.ba.length !=0) with h | h <;> simp only[h,cond_true,cond_false] <;> rfl)
     (fun _=>by simp only[F.kP,ff,cond_false]) fu (by simp only[aj,cQ];omega) ()
    rw[wY] at hloop
    rw[if_neg (fun h=>h h1)]
    simp only[b1,cond_false,c,ab,hloop]
    have e:List.map (y9 n s.bI.ba.length) ([s.cf]++s.c9)=List.map (y9 n s.bI.ba.length) (s.cf::s.c9):=rfl
    rw[e]
    by_cases h:fc (List.map (y9 n s.bI.ba.length) (s.cf::s.c9))=0
    ·rw[if_pos h,h];rfl
    ·rw[if_neg h];rfl
   ·have b1:(kR s.Do !=(s.c9.length:Int))=true:=by simpa using h1
    rw[if_pos h1]
    simp only[b1,cond_true]
 ·have b:(mI s.bI !=0)=true:=by simpa using hw
  rw[if_pos hw]
  simp only[b,cond_true]
theorem yn (fu:Nat) (n:aP) (hs:n.cA.length≤1048576) (hf:2000000<fu):F.pD fu n=some (wN n):=by
 unfold F.pD wN
 by_cases h:n.cd.length>256
 ·have d:decide ((n.cd.length:Int)>256)=true:=by simp;omega
  simp only[d,cond_true,h,if_true]
 ·have d:decide ((n.cd.length:Int)>256)=false:=by simp;omega
  simp only[d,cond_false,h,if_false,HO fu n.cA (by omega) (by omega),ab]
  cases hb:n.cA.any Bm with
  | true=>rfl
  | false=>
   have hloop:=jO (body:=F.ox fu n) n.cd (fun (_:Unit) i=>i) (fun _ s=>cond (su n s !=0) (some (.inr (Ex.ret (id (su n s))))) (some (.inl ()))) (fun _=>Ex.dS ())
    (fun _ k s hk=>by
     have hw:=du (eT hk) (by omega)
     have he:(⟨(⟨s.bI.ba,s.bI.Rows⟩:bp),s.Do,s.Value,(⟨s.cf.Array,(⟨s.cf.At.cZ,s.cf.At.Const⟩:aS)⟩:bF),s.c9⟩:dh)=s:=rfl
     simp only[F.ox,dec_lt hk,cond_true,bJ hk,ab,hw,he,FW fu n s (by omega)]
     rcases fG (su n s !=0) with h | h <;> simp only[h,cond_true,cond_false] <;> rfl)
    (fun _=>by simp only[F.ox,ff,cond_false]) fu (by omega) ()
   rw[wY] at hloop
   simp only[cond_false,hloop]
   by_cases h:fc (List.map (su n) n.cd)=0
   ·rw[if_pos h,h];rfl
   ·rw[if_neg h];rfl
end Go.DN
