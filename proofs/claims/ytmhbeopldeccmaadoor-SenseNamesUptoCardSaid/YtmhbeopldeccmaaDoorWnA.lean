/-
  Sense, names: the plain law: what is wrong with a program's names.
-/
import Derived.Test.YtmhbeopldeccmaaDoorVrF
set_option maxRecDepth 20000
set_option linter.unusedVariables false
set_option linter.unusedSimpArgs false
namespace Go.DN
open Go.AM
def cr (a b:ByteArray):Bool:=a.toList==b.toList
theorem mY {a b:ByteArray}:cr a b=true↔a=b:=⟨Ih,fun h=>by subst h;simp[cr]⟩
theorem vz (a b:ByteArray):decide (a=b)=cr a b:=by
 cases h:cr a b with
 | true=>exact decide_eq_true (mY.1 h)
 | false=>exact decide_eq_false fun e=>by rw[mY.2 e] at h;cases h
theorem rh (a n:Int):[a].any (fun l=>l==n)=(n==a||n==a):=by
 rw[Bool.or_self,cG,fH,di]
 exact Bool.beq_comm
theorem RL (a b n:Int):[a,b].any (fun l=>l==n)=(n==a||n==b):=by
 rw[cG,cG,fH,di,Bool.beq_comm (a:=a),Bool.beq_comm (a:=b)]
theorem yi (fu fu':Nat) (s:ByteArray):∃b ok r,F.ld fu s=some (b,ok)∧F.dZ fu' s=some r∧(r.Kind !=0)=ok∧
  (ok=true→b.shaped=r.Shaped∧b.args=r.kT∧(r.kT=-1∨1≤r.kT)∧∀n:Int,b.lists.any (fun l=>l==n)=(n==r.aE||n==r.l5))∧b.lists.length≤2:=by
 unfold F.ld F.dZ
 generalize (s.toList==(ByteArray.mk #[109,97,120]).toList)=c0
 generalize (s.toList==(ByteArray.mk #[108,101,115,115]).toList)=c1
 generalize (s.toList==(ByteArray.mk #[112,105,99,107]).toList)=c2
 generalize (s.toList==(ByteArray.mk #[115,112,114,101,97,100]).toList)=c3
 generalize (s.toList==(ByteArray.mk #[115,117,109]).toList)=c4
 generalize (s.toList==(ByteArray.mk #[116,117,114,110]).toList)=c5
 generalize (s.toList==(ByteArray.mk #[114,101,102,111,114,109]).toList)=c6
 generalize (s.toList==(ByteArray.mk #[99,117,116]).toList)=c7
 generalize (s.toList==(ByteArray.mk #[112,97,100]).toList)=c8
 generalize (s.toList==(ByteArray.mk #[102,108,105,112]).toList)=c9
 generalize (s.toList==(ByteArray.mk #[100,111,116]).toList)=c10
 generalize (s.toList==(ByteArray.mk #[106,111,105,110]).toList)=c11
 generalize (s.toList==(ByteArray.mk #[116,97,107,101]).toList)=c12
 generalize (s.toList==(ByteArray.mk #[112,117,116]).toList)=c13
 cases c0 with
 | true=>exact⟨_,_,_,rfl,rfl,rfl,fun _=>⟨rfl,rfl,by decide,fun n=>rh _ n⟩,by decide⟩
 | false=>
  cases c1 with
  | true=>exact⟨_,_,_,rfl,rfl,rfl,fun _=>⟨rfl,rfl,by decide,fun n=>rh _ n⟩,by decide⟩
  | false=>
   cases c2 with
   | true=>exact⟨_,_,_,rfl,rfl,rfl,fun _=>⟨rfl,rfl,by decide,fun n=>rh _ n⟩,by decide⟩
   | false=>
    cases c3 with
    | true=>exact⟨_,_,_,rfl,rfl,rfl,fun _=>⟨rfl,rfl,by decide,fun n=>rh _ n⟩,by decide⟩
    | false=>
     cases c4 with
     | true=>exact⟨_,_,_,rfl,rfl,rfl,fun _=>⟨rfl,rfl,by decide,fun n=>rh _ n⟩,by decide⟩
     | false=>
      cases c5 with
      | true=>exact⟨_,_,_,rfl,rfl,rfl,fun _=>⟨rfl,rfl,by decide,fun n=>rh _ n⟩,by decide⟩
      | false=>
       cases c6 with
       | true=>exact⟨_,_,_,rfl,rfl,rfl,fun _=>⟨rfl,rfl,by decide,fun n=>rh _ n⟩,by decide⟩
       | false=>
        cases c7 with
        | true=>exact⟨_,_,_,rfl,rfl,rfl,fun _=>⟨rfl,rfl,by decide,fun n=>rh _ n⟩,by decide⟩
        | false=>
         cases c8 with
         | true=>exact⟨_,_,_,rfl,rfl,rfl,fun _=>⟨rfl,rfl,by decide,fun n=>rh _ n⟩,by decide⟩
         | false=>
          cases c9 with
          | true=>exact⟨_,_,_,rfl,rfl,rfl,fun _=>⟨rfl,rfl,by decide,fun n=>rh _ n⟩,by decide⟩
          | false=>
           cases c10 with
           | true=>exact⟨_,_,_,rfl,rfl,rfl,fun _=>⟨rfl,rfl,by decide,fun n=>RL 2 4 n⟩,by decide⟩
           | false=>
            cases c11 with
            | true=>exact⟨_,_,_,rfl,rfl,rfl,fun _=>⟨rfl,rfl,by decide,fun n=>rh _ n⟩,by decide⟩
            | false=>
             cases c12 with
             | true=>exact⟨_,_,_,rfl,rfl,rfl,fun _=>⟨rfl,rfl,by decide,fun n=>rh _ n⟩,by decide⟩
             | false=>
              cases c13 with
              | true=>exact⟨_,_,_,rfl,rfl,rfl,fun _=>⟨rfl,rfl,by decide,fun n=>rh _ n⟩,by decide⟩
              | false=>
               exact⟨_,_,_,rfl,rfl,rfl,(fun h=>by cases h),by decide⟩
def cY (s:ByteArray):gU:=(F.dZ 0 s).getD ⟨0,false,0,0,0⟩
theorem Kt (fu:Nat) (s:ByteArray):F.dZ fu s=some (cY s):=by
 obtain⟨b,ok,r,_,h,_⟩:=yi 0 0 s
 have e:F.dZ fu s=F.dZ 0 s:=rfl
 unfold cY
 rw[e,h];rfl
theorem wT (fu:Nat) (s:ByteArray):∃b,F.ld fu s=some (b,(cY s).Kind !=0)∧
  (((cY s).Kind !=0)=true→b.shaped=(cY s).Shaped∧b.args=(cY s).kT∧((cY s).kT=-1∨1≤(cY s).kT)∧∀n:Int,b.lists.any (fun l=>l==n)=(n==(cY s).aE||n==(cY s).l5))∧b.lists.length≤2:=by
 obtain⟨b,ok,r,h1,h2,h3,h4,h5⟩:=yi fu 0 s
 have:cY s=r:=by unfold cY;rw[h2];rfl
 rw[this]
 exact⟨b,by rw[h1,h3],by rw[h3];exact h4,h5⟩
abbrev lL:=ByteArray→Bool
def pG (D:lL) (l:List iu):Bool:=l.all fun d=>cr d.Name (ByteArray.mk #[])||D d.Name
def ov (D:lL) (A:ByteArray→Option Int) (t:ai):Int:=
 if (cY t.Name).Kind=0 then
  match A t.Name with
  | none=>8
  | some n=>if t.Shaped=true∨t.aE.length≠0 then 7 else if n=(t.Kids.length:Int) then 0 else 2
 else if (t.Shaped==(cY t.Name).Shaped)=false∨((t.aE.length:Int)==(cY t.Name).aE||(t.aE.length:Int)==(cY t.Name).l5)=false then 7
 else if ((cY t.Name).kT≥0∧(t.Kids.length:Int)≠(cY t.Name).kT)∨t.Kids.length=0 then 2
 else if pG D t.Shape=true then 0 else 8
def nf (t:ai) (K:lL) (i:Nat):lL:=if i=1∧(t.Kind=5∨t.Kind=6) then fun n=>cr t.Name n||K n else K
def ji (t:ai) (K:lL):Nat→List (lL→Int)→Int
 | _,[]=>0
 | i,f::r=>if f (nf t K i)=0 then ji t K (i+1) r else f (nf t K i)
def N6 (D:lL) (A:ByteArray→Option Int) (t:ai) (ks:List (lL→Int)):lL→Int:=fun K=>
 if t.Kind=2∧K t.Name=false then 8
 else if t.Kind=3∧ov D A t≠0 then ov D A t
 else ji t K 0 ks
def jo (D:lL) (A:ByteArray→Option Int) (t:ai):lL→Int:=fold (N6 D A) t
theorem KJ (D:lL) (A:ByteArray→Option Int) (t:ai):jo D A t=N6 D A t (t.Kids.map (jo D A)):=fold_eq _ _
end Go.DN
