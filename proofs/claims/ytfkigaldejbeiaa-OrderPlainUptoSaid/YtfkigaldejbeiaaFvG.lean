/-
  Nest: the plain law: what is wrong; memory copied and compared; the law.
-/
import Derived.Test.YtfkigaldejbeiaaFvF
set_option linter.unusedSimpArgs false
set_option linter.unusedVariables false
namespace Go.DN
open Go.AM
def Ca (d:Int):Bool:=decide (d<0)||decide (d>65536)
def fj:List Int→Int
 | []=>0
 | v::r=>if v≠0 then v else fj r
def zO (n:aM) (L:Int) (a:bK):Int:=if a.Array<0∨a.Array≥n.cC.length then 4 else fN a.At L
def sU (n:aM) (s:c9):Int:=if mR s.ba≠0 then mR s.ba else if kW s.Do<0 then 1 else if kW s.Do≠s.de.length then 2 else fj ((s.cg::s.de).map (zO n s.ba.aU.length))
def wN (n:aM):Int:=if n.bC.length>256 then 2 else if n.cC.any Ca then 4 else fj (n.bC.map (sU n))
theorem xC {α ρ:Type}(f:α→Int) (h:Int→ρ):∀l:List α,jx (fun (_:Unit) x=>cond (f x !=0) (some (.inr (Ex.ret (h (f x))))) (some (.inl ()))) (fun _=>Ex.dW ()) () l=some (if fj (l.map f)=0 then Ex.dW () else Ex.ret (h (fj (l.map f))))
 | []=>by simp[jx,fj]
 | x::r=>by
  have ih:=xC f h r
  simp only[jx,aJ,fj]
  by_cases hx:f x=0
  ·have hb:(f x !=0)=false:=by simp[hx]
   simp only[hb,cond_false,hx,ne_eq,not_true,if_false]
   exact ih
  ·have hb:(f x !=0)=true:=by simpa using hx
   simp only[hb,cond_true,hx,ne_eq,not_false_iff,if_true,if_false]
theorem Rz (fu:Nat) (d:Int):F.na fu d=some (Ca d):=by
 unfold F.na Ca
 cases decide (d<0) <;> simp
theorem II (fu:Nat) (s:List Int) (h63:s.length≤9223372036854775807) (hf:s.length<fu):F.iX fu s=some (s.any Ca):=by
 obtain⟨r,h1,h2⟩:=AO s (F.na fu) Ca (Rz fu) h63 fu hf
 have h3:aB (F.qz fu s) fu 0=some r:=h1
 cases r with
 | dW _=>
  simp only at h2
  simp only[F.iX,F.lI,h3,eU,ae,h2]
  rfl
 | ret i=>
  simp only at h2
  simp only[F.iX,F.lI,h3,eU,ae,h2.2,id]
  simpa using h2.1
theorem QI (fu:Nat) (d:Int):F.uT fu d=some (kW d):=by
 by_cases h1:d=1
 ·subst h1;rfl
 by_cases h2:d=2
 ·subst h2;rfl
 by_cases h9:d=9
 ·subst h9;rfl
 by_cases h3:d=3
 ·subst h3;rfl
 by_cases h4:d=4
 ·subst h4;rfl
 by_cases h5:d=5
 ·subst h5;rfl
 by_cases h6:d=6
 ·subst h6;rfl
 by_cases h7:d=7
 ·subst h7;rfl
 by_cases h10:d=10
 ·subst h10;rfl
 by_cases h8:d=8
 ·subst h8;rfl
 have b:∀c:Int,d≠c→(d==c)=false:=fun c h=>by simpa using h
 unfold F.uT kW
 simp only[b 1 h1,b 2 h2,b 3 h3,b 4 h4,b 5 h5,b 6 h6,b 7 h7,b 8 h8,b 9 h9,b 10 h10,cond_false,ae,h1,h2,h3,h4,h5,h6,h7,h8,h9,h10,if_false,or_self]
theorem OQ (d:Int):kW d≤3:=by
 unfold kW
 split
 ·omega
 ·split
  ·omega
  ·split
   ·omega
   ·split <;> omega
theorem GN (fu:Nat) (n:aM) (s:c9) (hf:20<fu):F.nL fu n s=some (sU n s):=by
 unfold F.nL sU
 rw[A7 fu s.ba (by omega),ae]
 by_cases hw:mR s.ba=0
 ·have b:(mR s.ba !=0)=false:=by simp[hw]
  have h4:=(JV hw).len
  rw[if_neg (fun h=>h hw)]
  simp only[b,cond_false,QI,ae]
  by_cases h0:kW s.Do<0
  ·have d:decide (kW s.Do<0)=true:=by simpa using h0
   rw[if_pos h0]
   simp only[d,cond_true]
  ·have d:decide (kW s.Do<0)=false:=by simpa using h0
   rw[if_neg h0]
   simp only[d,cond_false]
   by_cases h1:kW s.Do=s.de.length
   ·have b1:(kW s.Do !=(s.de.length:Int))=false:=by simp[h1]
    have h3:=OQ s.Do
    have c:=bJ (p:=[s.cg].length+s.de.length≤maxLen∧([s.cg].length+s.de.length)*40≤140737488355328) (by simp only[cS,maxLen];omega)
    have hloop:=jT (body:=F.kU fu n s) ([s.cg]++s.de) (fun (_:Unit) i=>i) (fun _ a=>cond (zO n s.ba.aU.length a !=0) (some (.inr (Ex.ret (id (zO n s.ba.aU.length a))))) (some (.inl ()))) (fun _=>Ex.dW ())
     (fun _ k a ha=>by
      have hw:=dh (ep ha) (by simp only[ak,cS];omega)
      simp only[F.kU,dec_lt ha,cond_true,bM ha,ae,hw]
      unfold zO
      by_cases h0:a.Array<0
      ·have d:decide (a.Array<0)=true:=by simpa using h0
       simp only[d,cond_true,ae]
       rw[if_pos (Or.inl h0)];rfl
      ·have d:decide (a.Array<0)=false:=by simpa using h0
       by_cases h1:a.Array≥(n.cC.length:Int)
       ·have d1:decide (a.Array≥(n.cC.length:Int))=true:=by simpa using h1
        simp only[d,d1,cond_true,cond_false,ae]
        rw[if_pos (Or.inr h1)];rfl
       ·have d1:decide (a.Array≥(n.cC.length:Int))=false:=by simpa using h1
        simp only[d,d1,cond_false,ae,GX fu a.At s.ba.aU.length (by omega) (by omega)]
        rw[if_neg (fun h=>h.elim h0 h1)]
        rcases fJ (fN a.At s.ba.aU.length !=0) with h | h <;> simp only[h,cond_true,cond_false] <;> rfl)
     (fun _=>by simp only[F.kU,eF,cond_false]) fu (by simp only[ak,cS];omega) ()
    rw[xC] at hloop
    rw[if_neg (fun h=>h h1)]
    simp only[b1,cond_false,c,ae,hloop]
    have e:List.map (zO n s.ba.aU.length) ([s.cg]++s.de)=List.map (zO n s.ba.aU.length) (s.cg::s.de):=rfl
    rw[e]
    by_cases h:fj (List.map (zO n s.ba.aU.length) (s.cg::s.de))=0
    ·rw[if_pos h,h];rfl
    ·rw[if_neg h];rfl
   ·have b1:(kW s.Do !=(s.de.length:Int))=true:=by simpa using h1
    rw[if_pos h1]
    simp only[b1,cond_true]
 ·have b:(mR s.ba !=0)=true:=by simpa using hw
  rw[if_pos hw]
  simp only[b,cond_true]
theorem za (fu:Nat) (n:aM) (hs:n.cC.length≤1048576) (hf:2000000<fu):F.pV fu n=some (wN n):=by
 unfold F.pV wN
 by_cases h:n.bC.length>256
 ·have d:decide ((n.bC.length:Int)>256)=true:=by simp;omega
  simp only[d,cond_true,h,if_true]
 ·have d:decide ((n.bC.length:Int)>256)=false:=by simp;omega
  simp only[d,cond_false,h,if_false,II fu n.cC (by omega) (by omega),ae]
  cases hb:n.cC.any Ca with
  | true=>rfl
  | false=>
   have hloop:=jT (body:=F.oK fu n) n.bC (fun (_:Unit) i=>i) (fun _ s=>cond (sU n s !=0) (some (.inr (Ex.ret (id (sU n s))))) (some (.inl ()))) (fun _=>Ex.dW ())
    (fun _ k s hk=>by
     have hw:=dh (ep hk) (by omega)
     have he:(⟨(⟨s.ba.aU,s.ba.Rows⟩:bu),s.Do,s.Value,(⟨s.cg.Array,(⟨s.cg.At.db,s.cg.At.Const⟩:aO)⟩:bK),s.de⟩:c9)=s:=rfl
     simp only[F.oK,dec_lt hk,cond_true,bM hk,ae,hw,he,GN fu n s (by omega)]
     rcases fJ (sU n s !=0) with h | h <;> simp only[h,cond_true,cond_false] <;> rfl)
    (fun _=>by simp only[F.oK,eF,cond_false]) fu (by omega) ()
   rw[xC] at hloop
   simp only[cond_false,hloop]
   by_cases h:fj (List.map (sU n) n.bC)=0
   ·rw[if_pos h,h];rfl
   ·rw[if_neg h];rfl
end Go.DN
