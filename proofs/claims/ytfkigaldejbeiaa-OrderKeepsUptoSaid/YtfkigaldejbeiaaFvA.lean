/-
  Points: the plain law: what is wrong with a set; its points; the walk dz them.
-/
import Derived.Test.YtfkigaldejbeiaaOwF
import Derived.Test.YtfkigaldejbeiaaMgB
set_option linter.unusedSectionVars false
set_option linter.unusedSimpArgs false
set_option linter.unusedVariables false
namespace Go.DN
open Go.AM
set_option linter.unusedVariables false
def u6 (c:Int):Bool:=decide (c < -1048576)||decide (c>1048576)
def DL (d:Int):Bool:=decide (d<0)||decide (d>4096)
def fK (r:aS) (v:Int):Int:=if (r.cZ.length:Int)≠v then 6 else if u6 r.Const||r.cZ.any u6 then 4 else 0
def sv (v:Int):List aS→Int
 | []=>0
 | r::rs=>if fK r v≠0 then fK r v else sv v rs
def zl:Int→List Int→Int
 | n,[]=>n
 | n,x::r=>zl (n*x) r
def mI (p:bp):Int:=
 if p.ba.length>4 then 3 else if p.ba.any DL then 4 else if zl 1 p.ba>4096 then 5 else if p.Rows.length>8 then 2 else sv p.ba.length p.Rows
theorem Bp {α γ:Type}(bad:α→Bool) (v:γ):∀(l:List α),jo (fun (_:Unit) x=>cond (bad x) (some (.inr (Ex.ret v))) (some (.inl ()))) (fun _=>Ex.dS ()) () l=some (if l.any bad then Ex.ret v else Ex.dS ())
 | []=>by simp[jo]
 | x::r=>by
  have ih:=Bp bad v r
  simp only[jo,List.any_cons]
  rcases fG (bad x) with h | h
  ·simp[h]
  ·simpa[h] using ih
theorem IF (fu:Nat) (d:Int):F.k7 fu d=some (u6 d):=by
 unfold F.k7 u6
 cases decide (d < -1048576) <;> simp
theorem CA (fu:Nat) (s:List Int) (h63:s.length≤9223372036854775807) (hf:s.length<fu):F.g9 fu s=some (s.any u6):=by
 obtain⟨r,h1,h2⟩:=z9 s (F.k7 fu) u6 (IF fu) h63 fu hf
 have h3:aB (F.oT fu s) fu 0=some r:=h1
 cases r with
 | dS _=>
  simp only at h2
  simp only[F.g9,F.kC,h3,eR,ab,h2]
  rfl
 | ret i=>
  simp only at h2
  simp only[F.g9,F.kC,h3,eR,ab,h2.2,id]
  simpa using h2.1
theorem F4 (fu:Nat) (r:aS) (v:Int) (hv:v≤4) (hf:10<fu):F.nu fu r v=some (fK r v):=by
 unfold F.nu fK
 by_cases h:(r.cZ.length:Int)=v
 ·have:((r.cZ.length:Int) !=v)=false:=by simpa using h
  simp only[this,cond_false,IF,ab,CA fu _ (show r.cZ.length≤9223372036854775807 by omega) (by omega)]
  cases u6 r.Const <;> cases r.cZ.any u6 <;> simp[h]
 ·have:((r.cZ.length:Int) !=v)=true:=by simpa using h
  simp[this,h]
theorem Pt (j:Nat) (h:j≤4):(4096:Int)^j≤281474976710656:=by
 match j,h with
 | 0,_=>decide
 | 1,_=>decide
 | 2,_=>decide
 | 3,_=>decide
 | 4,_=>decide
theorem D6 (ρ:Type) (e:Int→ρ):∀(l:List Int) (n:Int),(∀x∈l,0≤x∧x≤4096)→∀j,l.length+j≤4→0≤n→n≤4096^j→
  jo (fun n x=>some (.inl (IntKind.i64.wrap (n*x)))) e n l=some (e (zl n l))
 | [],n,_,_,_,_,_=>rfl
 | x::r,n,hr,j,hj,h0,h1=>by
  have hx:=hr x (av ..)
  have h2:n*x≤4096^(j+1):=by
   have:=Int.mul_le_mul h1 hx.2 hx.1 (by exact Int.le_of_lt (Int.pow_pos (by decide)))
   rwa[Int.pow_succ]
  simp only[bN] at hj
  have h3:=Pt (j+1) (by omega)
  have hw:IntKind.i64.wrap (n*x)=n*x:=i64 (by have:=Int.mul_nonneg h0 hx.1;omega) (by omega)
  simp only[jo,hw,zl]
  have:=D6 ρ e r (n*x) (fun y hy=>hr y (ao _ hy)) (j+1) (by omega) (Int.mul_nonneg h0 hx.1) h2
  simpa[hw] using this
theorem Ar (fu:Nat) (p:bp) (hf2:10<fu):F.jb fu p=some (mI p):=by
 unfold F.jb mI
 by_cases h4:p.ba.length>4
 ·have:decide ((p.ba.length:Int)>4)=true:=by simp;omega
  simp only[this,cond_true,if_pos h4]
 ·have:decide ((p.ba.length:Int)>4)=false:=by simp;omega
  simp only[this,cond_false,if_neg h4]
  have hloop:=jO (body:=F.my fu p) p.ba (fun (_:Unit) i=>i)
   (fun _ x=>cond (DL x) (some (.inr (Ex.ret (4:Int)))) (some (.inl ()))) (fun _=>Ex.dS ())
   (fun z k x hx=>by
    have hw:=du (eT hx) (by omega)
    simp only[F.my,dec_lt hx,cond_true,bJ hx,ab,hw]
    unfold DL
    cases decide (x<0) <;> cases decide (x>4096) <;> rfl)
   (fun n=>by simp only[F.my,ff,cond_false]) fu (by omega) ()
  rw[hloop]
  rw[Bp]
  cases hb:p.ba.any DL with
  | true=>simp[eR]
  | false=>
   have hg:∀x∈p.ba,0≤x∧x≤4096:=fun x hx=>by
    have:=mo.1 hb x hx
    simp[DL] at this
    omega
   have hloop2:=jO (body:=F.mw fu p) p.ba (fun n i=>(n,i))
    (fun n x=>some (.inl (IntKind.i64.wrap (n*x)))) (fun n=>n)
    (fun n k x hx=>by
     have hw:=du (eT hx) (by omega)
     simp only[F.mw,dec_lt hx,cond_true,bJ hx,ab,hw]
     rfl)
    (fun n=>by simp only[F.mw,ff,cond_false]) fu (by omega) 1
   rw[D6 _ _ p.ba 1 hg 0 (by omega) (by decide) (by decide)] at hloop2
   simp only[Bool.false_eq_true,if_false,eR,hloop2,ab]
   by_cases h5:zl 1 p.ba>4096
   ·simp[h5]
   ·simp only[h5,decide_false,cond_false,if_false]
    by_cases h8:p.Rows.length>8
    ·have:decide ((p.Rows.length:Int)>8)=true:=by simp;omega
     simp only[this,cond_true,if_pos h8]
    ·have:decide ((p.Rows.length:Int)>8)=false:=by simp;omega
     simp only[this,cond_false,if_neg h8]
     have hloop3:=jO (body:=F.mu fu p) p.Rows (fun (_:Unit) i=>i)
      (fun _ r=>cond (fK r p.ba.length !=0) (some (.inr (Ex.ret (fK r p.ba.length)))) (some (.inl ()))) (fun _=>Ex.dS ())
      (fun z k r hx=>by
       have hw:=du (eT hx) (by omega)
       have hm:=ar hx
       simp only[F.mu,dec_lt hx,cond_true,bJ hx,ab,hw,F4 fu r _ (show(p.ba.length:Int)≤4 by omega) hf2]
       cases fK r p.ba.length !=0 <;> rfl)
      (fun n=>by simp only[F.mu,ff,cond_false]) fu (by omega) ()
     rw[hloop3]
     have key3:∀(l:List aS),jo (fun (_:Unit) r=>cond (fK r p.ba.length !=0) (some (.inr (Ex.ret (fK r p.ba.length)))) (some (.inl ()))) (fun _=>Ex.dS ()) () l=some (if sv p.ba.length l≠0 then Ex.ret (sv p.ba.length l) else Ex.dS ()):=by
      intro l
      induction l with
      | nil=>simp[jo,sv]
      | cons x r ih=>
       simp only[jo,sv]
       by_cases h:fK x p.ba.length=0
       ·simpa[h] using ih
       ·have:(fK x p.ba.length !=0)=true:=by simpa using h
        simp[h,this]
     rw[key3]
     by_cases h:sv p.ba.length p.Rows=0 <;> simp[h]
end Go.DN
