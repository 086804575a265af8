/-
  Nest: the plain law: memory copied and compared; the law.
-/
import Derived.Test.YtfkigaldejbeiaaFvH
set_option linter.unusedSimpArgs false
set_option linter.unusedVariables false
namespace Go.DN
open Go.AM
theorem Rl {α:Type}(l:List α) (k:Nat) (hk:k<l.length) (z:α):(l.take k++List.replicate (l.length-k) z).set k l[k]=l.take (k+1)++List.replicate (l.length-(k+1)) z:=by
 have h1:(l.take k).length=k:=by rw[aX];omega
 rw[List.set_append_right _ _ (by omega),h1,pD]
 obtain⟨r,hr⟩:∃r,l.length-k=r+1:=⟨l.length-k-1,by omega⟩
 have:l.length-(k+1)=r:=by omega
 have e:l.take (k+1)=l.take k++[l[k]]:=by rw[kC,ag hk];rfl
 rw[hr,ob,List.set_cons_zero,e,this,aC]
 rfl
theorem oV {n:aM}{m:List (List Int)}(hl:m.length=n.cC.length):Fits n m↔∀(k:Nat) (r:List Int) (z:Int),m[k]?=some r→n.cC[k]?=some z→(r.length:Int)=z:=by
 constructor
 ·intro h k r z h1 h2
  have h:m.map (fun r=>(List.length r:Int))=n.cC:=h
  rw[←h,ay,h1] at h2
  exact kA h2
 ·intro h
  show m.map (fun r=>(List.length r:Int))=n.cC
  apply nA (by rw[aW];exact hl)
  intro k h1 h2
  rw[aW] at h1
  rw[List.getElem_map]
  exact h k _ _ (ag h1) (ag h2)
theorem zC (fu:Nat){n:aM}(hs:n.cC.length≤1048576) (hz:∀x∈n.cC,0≤x∧x≤65536) (mem:List (List Int)) (hf:2000000<fu):
  (Fits n mem∧F.gP fu n mem=some (0,mem))∨(¬Fits n mem∧∃e,e≠0∧F.gP fu n mem=some (e,[])):=by
 by_cases hl:mem.length=n.cC.length
 ·have b:((mem.length:Int) !=(n.cC.length:Int))=false:=by simp[hl]
  have hrow:∀k (hk:k<mem.length),∃z,n.cC[k]?=some z∧z≤65536:=fun k hk=>⟨_,ag (by omega),(hz _ (dE (by omega))).2⟩
  obtain⟨r,h1,h2⟩:=uX (body:=F.lm fu n mem)
   (fun q:Int×List (List Int)=>∃k:Nat,q.1=(k:Int)∧k≤mem.length∧q.2=mem.take k++List.replicate (mem.length-k) []∧∀(j:Nat) (r:List Int) (z:Int),j<k→mem[j]?=some r→n.cC[j]?=some z→(r.length:Int)=z)
   (fun q=>mem.length-q.1.toNat) (fun r=>(r=Ex.dW mem∧Fits n mem)∨(r=Ex.ret ((6:Int),([]:List (List Int)))∧¬Fits n mem)) (by
    rintro⟨i,m4⟩ ⟨k,e1,hk,e2,e3⟩
    simp only at e1 e2
    subst e1;subst e2
    by_cases h:k<mem.length
    ·have hm:mem[k]?=some mem[k]:=ag h
     obtain⟨z,hzk,hz2⟩:=hrow k h
     have hw:IntKind.i64.wrap ((k:Int)+1)=((k+1:Nat):Int):=dh h (by omega)
     by_cases hzz:(mem[k].length:Int)=z
     ·left
      have b2:((mem[k].length:Int) !=z)=false:=by simp[hzz]
      have hlen:(mem.take k++List.replicate (mem.length-k) ([]:List Int)).length=mem.length:=by
       rw[ak,aX,eY];omega
      have c1:=bJ (p:=(0:Int)≤(k:Int)∧(k:Int)<((mem.take k++List.replicate (mem.length-k) ([]:List Int)).length:Int)) (by rw[hlen];omega)
      have c2:=bJ (p:=(k:Int).toNat<(mem.take k++List.replicate (mem.length-k) ([]:List Int)).length) (by rw[hlen];omega)
      refine⟨(((k+1:Nat):Int),mem.take (k+1)++List.replicate (mem.length-(k+1)) []),?_,⟨k+1,rfl,by omega,rfl,fun j r z' hj hr hz'=>?_⟩,by simp only;omega⟩
      ·simp only[F.lm,dec_lt hm,cond_true,bM hm,bM hzk,ae,b2,cond_false,O9 fu mem[k] (by omega),c1,c2,hw]
       rw[bc,Rl mem k h]
      ·by_cases hjk:j=k
       ·subst hjk
        rw[hm] at hr;cases hr
        rw[hzk] at hz';cases hz'
        exact hzz
       ·exact e3 j r z' (by omega) hr hz'
     ·right
      have b2:((mem[k].length:Int) !=z)=true:=by simpa using hzz
      refine⟨_,by simp only[F.lm,dec_lt hm,cond_true,bM hm,bM hzk,ae,b2],.inr ⟨rfl,fun hF=>hzz ((oV hl).1 hF k _ _ hm hzk)⟩⟩
    ·right
     have:k=mem.length:=by omega
     subst this
     refine⟨Ex.dW (mem.take mem.length++List.replicate (mem.length-mem.length) []),by simp only[F.lm,eF,cond_false],.inl ⟨?_,(oV hl).2 fun j r z hr hz'=>e3 j r z (ep hr) hr hz'⟩⟩
     rw[nz,pD];simp) fu (0,List.replicate (Int.toNat (mem.length:Int)) []) ⟨0,rfl,hZ _,by simp,fun j r z hj=>by omega⟩ (by simp only;omega)
  have hc:F.gP fu n mem=eU (fun r=>r) (some r) (fun m8=>some ((0:Int),m8)):=by
   unfold F.gP
   simp only[b,cond_false]
   rw[bJ]
   rotate_left
   ·omega
   rw[ae,bJ (uz _),ae,h1]
  rcases h2 with ⟨rfl,hF⟩ | ⟨rfl,hF⟩
  ·exact .inl ⟨hF,hc⟩
  ·exact .inr ⟨hF,6,by decide,hc⟩
 ·have b:((mem.length:Int) !=(n.cC.length:Int))=true:=by simp;omega
  refine .inr ⟨fun h=>hl h.len,2,by decide,?_⟩
  unfold F.gP;rw[b];rfl
theorem Jr (fu:Nat) (a:List (List Int)) (hl:a.length≤1048576) (hr:∀r∈a,r.length≤65536) (hf:2000000<fu):F.gA fu a a=some true:=by
 have hloop:=jT (body:=F.gY fu a a) a (fun (_:Unit) i=>i) (fun _ r=>some (.inl ())) (fun _=>Ex.dW ())
  (fun _ k r hk=>by
   have hw:=dh (ep hk) (by omega)
   have hrl:=hr r (ar hk)
   have b:((r.length:Int) !=(r.length:Int))=false:=by simp
   have hin:=jT (body:=F.gZ fu a a (k:Int) r) r (fun (_:Unit) i=>i) (fun _ x=>some (.inl ())) (fun _=>Ex.dW ())
    (fun _ j x hj=>by
     have hw:=dh (ep hj) (by omega)
     have b:(x !=x)=false:=by simp
     simp only[F.gZ,dec_lt hj,cond_true,bM hk,bM hj,ae,b,cond_false,hw]
     rfl)
    (fun _=>by simp only[F.gZ,eF,cond_false]) fu (by omega) ()
   rw[vb (fun _ _=>())] at hin
   simp only[F.gY,dec_lt hk,cond_true,bM hk,ae,b,cond_false,hin,hw]
   rfl)
  (fun _=>by simp only[F.gY,eF,cond_false]) fu (by omega) ()
 rw[vb (fun _ _=>())] at hloop
 have b:((a.length:Int) !=(a.length:Int))=false:=by simp
 unfold F.gA
 simp only[b,cond_false]
 rw[hloop];rfl
end Go.DN
