/-
  Points: the plain law: what is wrong with a set; its points; the walk dz them.
-/
import Derived.Test.YtfkigaldejbeiaaOwF
import Derived.Test.YtfkigaldejbeiaaMgB
set_option linter.unusedSectionVars false
set_option linter.unusedSimpArgs false
set_option linter.unusedVariables false
namespace Go.DN
open Go.AM
set_option linter.unusedVariables false
def vt (c:Int):Bool:=decide (c < -1048576)||decide (c>1048576)
def Ea (d:Int):Bool:=decide (d<0)||decide (d>4096)
def fL (r:aT) (v:Int):Int:=if (r.cZ.length:Int)≠v then 6 else if vt r.Const||r.cZ.any vt then 4 else 0
def sO (v:Int):List aT→Int
 | []=>0
 | r::rs=>if fL r v≠0 then fL r v else sO v rs
def zG:Int→List Int→Int
 | n,[]=>n
 | n,x::r=>zG (n*x) r
def mM (p:bp):Int:=
 if p.ba.length>4 then 3 else if p.ba.any Ea then 4 else if zG 1 p.ba>4096 then 5 else if p.Rows.length>8 then 2 else sO p.ba.length p.Rows
theorem BS {α γ:Type}(bad:α→Bool) (v:γ):∀(l:List α),jt (fun (_:Unit) x=>cond (bad x) (some (.inr (Ex.ret v))) (some (.inl ()))) (fun _=>Ex.dS ()) () l=some (if l.any bad then Ex.ret v else Ex.dS ())
 | []=>by simp[jt]
 | x::r=>by
  have ih:=BS bad v r
  simp only[jt,List.any_cons]
  rcases fH (bad x) with h | h
  ·simp[h]
  ·simpa[h] using ih
theorem I8 (fu:Nat) (d:Int):F.la fu d=some (vt d):=by
 unfold F.la vt
 cases decide (d < -1048576) <;> simp
theorem CW (fu:Nat) (s:List Int) (h63:s.length≤9223372036854775807) (hf:s.length<fu):F.ib fu s=some (s.any vt):=by
 obtain⟨r,h1,h2⟩:=Ar s (F.la fu) vt (I8 fu) h63 fu hf
 have h3:aB (F.o9 fu s) fu 0=some r:=h1
 cases r with
 | dS _=>
  simp only at h2
  simp only[F.ib,F.kE,h3,eS,ae,h2]
  rfl
 | ret i=>
  simp only at h2
  simp only[F.ib,F.kE,h3,eS,ae,h2.2,id]
  simpa using h2.1
theorem Gy (fu:Nat) (r:aT) (v:Int) (hv:v≤4) (hf:10<fu):F.nA fu r v=some (fL r v):=by
 unfold F.nA fL
 by_cases h:(r.cZ.length:Int)=v
 ·have:((r.cZ.length:Int) !=v)=false:=by simpa using h
  simp only[this,cond_false,I8,ae,CW fu _ (show r.cZ.length≤9223372036854775807 by omega) (by omega)]
  cases vt r.Const <;> cases r.cZ.any vt <;> simp[h]
 ·have:((r.cZ.length:Int) !=v)=true:=by simpa using h
  simp[this,h]
theorem PS (j:Nat) (h:j≤4):(4096:Int)^j≤281474976710656:=by
 match j,h with
 | 0,_=>decide
 | 1,_=>decide
 | 2,_=>decide
 | 3,_=>decide
 | 4,_=>decide
theorem Ev (ρ:Type) (e:Int→ρ):∀(l:List Int) (n:Int),(∀x∈l,0≤x∧x≤4096)→∀j,l.length+j≤4→0≤n→n≤4096^j→
  jt (fun n x=>some (.inl (IntKind.i64.wrap (n*x)))) e n l=some (e (zG n l))
 | [],n,_,_,_,_,_=>rfl
 | x::r,n,hr,j,hj,h0,h1=>by
  have hx:=hr x (av ..)
  have h2:n*x≤4096^(j+1):=by
   have:=Int.mul_le_mul h1 hx.2 hx.1 (by exact Int.le_of_lt (Int.pow_pos (by decide)))
   rwa[Int.pow_succ]
  simp only[bN] at hj
  have h3:=PS (j+1) (by omega)
  have hw:IntKind.i64.wrap (n*x)=n*x:=i64 (by have:=Int.mul_nonneg h0 hx.1;omega) (by omega)
  simp only[jt,hw,zG]
  have:=Ev ρ e r (n*x) (fun y hy=>hr y (ao _ hy)) (j+1) (by omega) (Int.mul_nonneg h0 hx.1) h2
  simpa[hw] using this
theorem AL (fu:Nat) (p:bp) (hf2:10<fu):F.je fu p=some (mM p):=by
 unfold F.je mM
 by_cases h4:p.ba.length>4
 ·have:decide ((p.ba.length:Int)>4)=true:=by simp;omega
  simp only[this,cond_true,if_pos h4]
 ·have:decide ((p.ba.length:Int)>4)=false:=by simp;omega
  simp only[this,cond_false,if_neg h4]
  have hloop:=jQ (body:=F.mB fu p) p.ba (fun (_:Unit) i=>i)
   (fun _ x=>cond (Ea x) (some (.inr (Ex.ret (4:Int)))) (some (.inl ()))) (fun _=>Ex.dS ())
   (fun z k x hx=>by
    have hw:=du (eU hx) (by omega)
    simp only[F.mB,dec_lt hx,cond_true,bJ hx,ae,hw]
    unfold Ea
    cases decide (x<0) <;> cases decide (x>4096) <;> rfl)
   (fun n=>by simp only[F.mB,fg,cond_false]) fu (by omega) ()
  rw[hloop]
  rw[BS]
  cases hb:p.ba.any Ea with
  | true=>simp[eS]
  | false=>
   have hg:∀x∈p.ba,0≤x∧x≤4096:=fun x hx=>by
    have:=mr.1 hb x hx
    simp[Ea] at this
    omega
   have hloop2:=jQ (body:=F.mA fu p) p.ba (fun n i=>(n,i))
    (fun n x=>some (.inl (IntKind.i64.wrap (n*x)))) (fun n=>n)
    (fun n k x hx=>by
     have hw:=du (eU hx) (by omega)
     simp only[F.mA,dec_lt hx,cond_true,bJ hx,ae,hw]
     rfl)
    (fun n=>by simp only[F.mA,fg,cond_false]) fu (by omega) 1
   rw[Ev _ _ p.ba 1 hg 0 (by omega) (by decide) (by decide)] at hloop2
   simp only[Bool.false_eq_true,if_false,eS,hloop2,ae]
   by_cases h5:zG 1 p.ba>4096
   ·simp[h5]
   ·simp only[h5,decide_false,cond_false,if_false]
    by_cases h8:p.Rows.length>8
    ·have:decide ((p.Rows.length:Int)>8)=true:=by simp;omega
     simp only[this,cond_true,if_pos h8]
    ·have:decide ((p.Rows.length:Int)>8)=false:=by simp;omega
     simp only[this,cond_false,if_neg h8]
     have hloop3:=jQ (body:=F.mz fu p) p.Rows (fun (_:Unit) i=>i)
      (fun _ r=>cond (fL r p.ba.length !=0) (some (.inr (Ex.ret (fL r p.ba.length)))) (some (.inl ()))) (fun _=>Ex.dS ())
      (fun z k r hx=>by
       have hw:=du (eU hx) (by omega)
       have hm:=ar hx
       simp only[F.mz,dec_lt hx,cond_true,bJ hx,ae,hw,Gy fu r _ (show(p.ba.length:Int)≤4 by omega) hf2]
       cases fL r p.ba.length !=0 <;> rfl)
      (fun n=>by simp only[F.mz,fg,cond_false]) fu (by omega) ()
     rw[hloop3]
     have key3:∀(l:List aT),jt (fun (_:Unit) r=>cond (fL r p.ba.length !=0) (some (.inr (Ex.ret (fL r p.ba.length)))) (some (.inl ()))) (fun _=>Ex.dS ()) () l=some (if sO p.ba.length l≠0 then Ex.ret (sO p.ba.length l) else Ex.dS ()):=by
      intro l
      induction l with
      | nil=>simp[jt,sO]
      | cons x r ih=>
       simp only[jt,sO]
       by_cases h:fL x p.ba.length=0
       ·simpa[h] using ih
       ·have:(fL x p.ba.length !=0)=true:=by simpa using h
        simp[h,this]
     rw[key3]
     by_cases h:sO p.ba.length p.Rows=0 <;> simp[h]
end Go.DN
