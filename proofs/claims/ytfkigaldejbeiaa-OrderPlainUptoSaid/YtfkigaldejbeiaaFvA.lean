/-
  Points: the plain law: what is wrong with a set; its points; the walk dm them.
-/
import Derived.Test.YtfkigaldejbeiaaOwF
import Derived.Test.YtfkigaldejbeiaaMgB
set_option linter.unusedSimpArgs false
set_option linter.unusedVariables false
namespace Go.DN
open Go.AM
def vJ (c:Int):Bool:=decide (c < -1048576)||decide (c>1048576)
def Es (d:Int):Bool:=decide (d<0)||decide (d>4096)
def fN (r:aO) (v:Int):Int:=if (r.db.length:Int)≠v then 6 else if vJ r.Const||r.db.any vJ then 4 else 0
def sV (v:Int):List aO→Int
 | []=>0
 | r::rs=>if fN r v≠0 then fN r v else sV v rs
def z8:Int→List Int→Int
 | n,[]=>n
 | n,x::r=>z8 (n*x) r
def mR (p:bu):Int:=
 if p.aU.length>4 then 3 else if p.aU.any Es then 4 else if z8 1 p.aU>4096 then 5 else if p.Rows.length>8 then 2 else sV p.aU.length p.Rows
theorem Cd {α γ:Type}(bad:α→Bool) (v:γ):∀(l:List α),jx (fun (_:Unit) x=>cond (bad x) (some (.inr (Ex.ret v))) (some (.inl ()))) (fun _=>Ex.dW ()) () l=some (if l.any bad then Ex.ret v else Ex.dW ())
 | []=>by simp[jx]
 | x::r=>by
  have ih:=Cd bad v r
  simp only[jx,List.any_cons]
  rcases fJ (bad x) with h | h
  ·simp[h]
  ·simpa[h] using ih
theorem Ju (fu:Nat) (d:Int):F.lg fu d=some (vJ d):=by
 unfold F.lg vJ
 cases decide (d < -1048576) <;> simp
theorem Dh (fu:Nat) (s:List Int) (h63:s.length≤9223372036854775807) (hf:s.length<fu):F.ie fu s=some (s.any vJ):=by
 obtain⟨r,h1,h2⟩:=AO s (F.lg fu) vJ (Ju fu) h63 fu hf
 have h3:aB (F.pj fu s) fu 0=some r:=h1
 cases r with
 | dW _=>
  simp only at h2
  simp only[F.ie,F.kH,h3,eU,ae,h2]
  rfl
 | ret i=>
  simp only at h2
  simp only[F.ie,F.kH,h3,eU,ae,h2.2,id]
  simpa using h2.1
theorem GX (fu:Nat) (r:aO) (v:Int) (hv:v≤4) (hf:10<fu):F.nG fu r v=some (fN r v):=by
 unfold F.nG fN
 by_cases h:(r.db.length:Int)=v
 ·have:((r.db.length:Int) !=v)=false:=by simpa using h
  simp only[this,cond_false,Ju,ae,Dh fu _ (show r.db.length≤9223372036854775807 by omega) (by omega)]
  cases vJ r.Const <;> cases r.db.any vJ <;> simp[h]
 ·have:((r.db.length:Int) !=v)=true:=by simpa using h
  simp[this,h]
theorem Qk (j:Nat) (h:j≤4):(4096:Int)^j≤281474976710656:=by
 match j,h with
 | 0,_=>decide
 | 1,_=>decide
 | 2,_=>decide
 | 3,_=>decide
 | 4,_=>decide
theorem EO (ρ:Type) (e:Int→ρ):∀(l:List Int) (n:Int),(∀x∈l,0≤x∧x≤4096)→∀j,l.length+j≤4→0≤n→n≤4096^j→
  jx (fun n x=>some (.inl (IntKind.i64.wrap (n*x)))) e n l=some (e (z8 n l))
 | [],n,_,_,_,_,_=>rfl
 | x::r,n,hr,j,hj,h0,h1=>by
  have hx:=hr x (au ..)
  have h2:n*x≤4096^(j+1):=by
   have:=Int.mul_le_mul h1 hx.2 hx.1 (by exact Int.le_of_lt (Int.pow_pos (by decide)))
   rwa[Int.pow_succ]
  simp only[bA] at hj
  have h3:=Qk (j+1) (by omega)
  have hw:IntKind.i64.wrap (n*x)=n*x:=i64 (by have:=Int.mul_nonneg h0 hx.1;omega) (by omega)
  simp only[jx,hw,z8]
  have:=EO ρ e r (n*x) (fun y hy=>hr y (ao _ hy)) (j+1) (by omega) (Int.mul_nonneg h0 hx.1) h2
  simpa[hw] using this
theorem A7 (fu:Nat) (p:bu) (hf2:10<fu):F.jh fu p=some (mR p):=by
 unfold F.jh mR
 by_cases h4:p.aU.length>4
 ·have:decide ((p.aU.length:Int)>4)=true:=by simp;omega
  simp only[this,cond_true,if_pos h4]
 ·have:decide ((p.aU.length:Int)>4)=false:=by simp;omega
  simp only[this,cond_false,if_neg h4]
  have hloop:=jT (body:=F.mI fu p) p.aU (fun (_:Unit) i=>i)
   (fun _ x=>cond (Es x) (some (.inr (Ex.ret (4:Int)))) (some (.inl ()))) (fun _=>Ex.dW ())
   (fun z k x hx=>by
    have hw:=dh (ep hx) (by omega)
    simp only[F.mI,dec_lt hx,cond_true,bM hx,ae,hw]
    unfold Es
    cases decide (x<0) <;> cases decide (x>4096) <;> rfl)
   (fun n=>by simp only[F.mI,eF,cond_false]) fu (by omega) ()
  rw[hloop]
  rw[Cd]
  cases hb:p.aU.any Es with
  | true=>simp[eU]
  | false=>
   have hg:∀x∈p.aU,0≤x∧x≤4096:=fun x hx=>by
    have:=mB.1 hb x hx
    simp[Es] at this
    omega
   have hloop2:=jT (body:=F.mH fu p) p.aU (fun n i=>(n,i))
    (fun n x=>some (.inl (IntKind.i64.wrap (n*x)))) (fun n=>n)
    (fun n k x hx=>by
     have hw:=dh (ep hx) (by omega)
     simp only[F.mH,dec_lt hx,cond_true,bM hx,ae,hw]
     rfl)
    (fun n=>by simp only[F.mH,eF,cond_false]) fu (by omega) 1
   rw[EO _ _ p.aU 1 hg 0 (by omega) (by decide) (by decide)] at hloop2
   simp only[Bool.false_eq_true,if_false,eU,hloop2,ae]
   by_cases h5:z8 1 p.aU>4096
   ·simp[h5]
   ·simp only[h5,decide_false,cond_false,if_false]
    by_cases h8:p.Rows.length>8
    ·have:decide ((p.Rows.length:Int)>8)=true:=by simp;omega
     simp only[this,cond_true,if_pos h8]
    ·have:decide ((p.Rows.length:Int)>8)=false:=by simp;omega
     simp only[this,cond_false,if_neg h8]
     have hloop3:=jT (body:=F.mG fu p) p.Rows (fun (_:Unit) i=>i)
      (fun _ r=>cond (fN r p.aU.length !=0) (some (.inr (Ex.ret (fN r p.aU.length)))) (some (.inl ()))) (fun _=>Ex.dW ())
      (fun z k r hx=>by
       have hw:=dh (ep hx) (by omega)
       have hm:=ar hx
       simp only[F.mG,dec_lt hx,cond_true,bM hx,ae,hw,GX fu r _ (show(p.aU.length:Int)≤4 by omega) hf2]
       cases fN r p.aU.length !=0 <;> rfl)
      (fun n=>by simp only[F.mG,eF,cond_false]) fu (by omega) ()
     rw[hloop3]
     have key3:∀(l:List aO),jx (fun (_:Unit) r=>cond (fN r p.aU.length !=0) (some (.inr (Ex.ret (fN r p.aU.length)))) (some (.inl ()))) (fun _=>Ex.dW ()) () l=some (if sV p.aU.length l≠0 then Ex.ret (sV p.aU.length l) else Ex.dW ()):=by
      intro l
      induction l with
      | nil=>simp[jx,sV]
      | cons x r ih=>
       simp only[jx,sV]
       by_cases h:fN x p.aU.length=0
       ·simpa[h] using ih
       ·have:(fN x p.aU.length !=0)=true:=by simpa using h
        simp[h,this]
     rw[key3]
     by_cases h:sV p.aU.length p.Rows=0 <;> simp[h]
end Go.DN
