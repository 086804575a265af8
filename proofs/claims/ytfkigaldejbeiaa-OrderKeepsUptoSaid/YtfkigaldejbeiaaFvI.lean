/-
  Nest: the plain law: memory copied and compared; the law.
-/
import Derived.Test.YtfkigaldejbeiaaFvH
set_option linter.unusedSectionVars false
set_option linter.unusedSimpArgs false
set_option linter.unusedVariables false
namespace Go.DN
open Go.AM
theorem Qt {α:Type}(l:List α) (k:Nat) (hk:k<l.length) (z:α):(l.take k++List.replicate (l.length-k) z).set k l[k]=l.take (k+1)++List.replicate (l.length-(k+1)) z:=by
 have h1:(l.take k).length=k:=by rw[aU];omega
 rw[List.set_append_right _ _ (by omega),h1,pf]
 obtain⟨r,hr⟩:∃r,l.length-k=r+1:=⟨l.length-k-1,by omega⟩
 have:l.length-(k+1)=r:=by omega
 have e:l.take (k+1)=l.take k++[l[k]]:=by rw[kw,ag hk];rfl
 rw[hr,nR,List.set_cons_zero,e,this,aC]
 rfl
theorem oH {n:aP}{m:List (List Int)}(hl:m.length=n.cA.length):Fits n m↔∀(k:Nat) (r:List Int) (z:Int),m[k]?=some r→n.cA[k]?=some z→(r.length:Int)=z:=by
 constructor
 ·intro h k r z h1 h2
  have h:m.map (fun r=>(List.length r:Int))=n.cA:=h
  rw[←h,ay,h1] at h2
  exact kr h2
 ·intro h
  show m.map (fun r=>(List.length r:Int))=n.cA
  apply List.ext_getElem (by rw[a5];exact hl)
  intro k h1 h2
  rw[a5] at h1
  rw[List.getElem_map]
  exact h k _ _ (ag h1) (ag h2)
theorem yP (fu:Nat){n:aP}(hs:n.cA.length≤1048576) (hz:∀x∈n.cA,0≤x∧x≤65536) (mem:List (List Int)) (hf:2000000<fu):
  (Fits n mem∧F.gL fu n mem=some (0,mem))∨(¬Fits n mem∧∃e,e≠0∧F.gL fu n mem=some (e,[])):=by
 by_cases hl:mem.length=n.cA.length
 ·have b:((mem.length:Int) !=(n.cA.length:Int))=false:=by simp[hl]
  have hrow:∀k (hk:k<mem.length),∃z,n.cA[k]?=some z∧z≤65536:=fun k hk=>⟨_,ag (by omega),(hz _ (ed (by omega))).2⟩
  obtain⟨r,h1,h2⟩:=uu (body:=F.lc fu n mem)
   (fun q:Int×List (List Int)=>∃k:Nat,q.1=(k:Int)∧k≤mem.length∧q.2=mem.take k++List.replicate (mem.length-k) []∧∀(j:Nat) (r:List Int) (z:Int),j<k→mem[j]?=some r→n.cA[j]?=some z→(r.length:Int)=z)
   (fun q=>mem.length-q.1.toNat) (fun r=>(r=Ex.dS mem∧Fits n mem)∨(r=Ex.ret ((6:Int),([]:List (List Int)))∧¬Fits n mem)) (by
    rintro⟨i,m4⟩ ⟨k,e1,hk,e2,e3⟩
    simp only at e1 e2
    subst e1;subst e2
    by_cases h:k<mem.length
    ·have hm:mem[k]?=some mem[k]:=ag h
     obtain⟨z,hzk,hz2⟩:=hrow k h
     have hw:IntKind.i64.wrap ((k:Int)+1)=((k+1:Nat):Int):=du h (by omega)
     by_cases hzz:(mem[k].length:Int)=z
     ·left
      have b2:((mem[k].length:Int) !=z)=false:=by simp[hzz]
      have hlen:(mem.take k++List.replicate (mem.length-k) ([]:List Int)).length=mem.length:=by
       rw[aj,aU,gH];omega
      have c1:=bK (p:=(0:Int)≤(k:Int)∧(k:Int)<((mem.take k++List.replicate (mem.length-k) ([]:List Int)).length:Int)) (by rw[hlen];omega)
      have c2:=bK (p:=(k:Int).toNat<(mem.take k++List.replicate (mem.length-k) ([]:List Int)).length) (by rw[hlen];omega)
      refine⟨(((k+1:Nat):Int),mem.take (k+1)++List.replicate (mem.length-(k+1)) []),?_,⟨k+1,rfl,by omega,rfl,fun j r z' hj hr hz'=>?_⟩,by simp only;omega⟩
      ·simp only[F.lc,dec_lt hm,cond_true,bJ hm,bJ hzk,ab,b2,cond_false,Oe fu mem[k] (by omega),c1,c2,hw]
       rw[bh,Qt mem k h]
      ·by_cases hjk:j=k
       ·subst hjk
        rw[hm] at hr;cases hr
        rw[hzk] at hz';cases hz'
        exact hzz
       ·exact e3 j r z' (by omega) hr hz'
     ·right
      have b2:((mem[k].length:Int) !=z)=true:=by simpa using hzz
      refine⟨_,by simp only[F.lc,dec_lt hm,cond_true,bJ hm,bJ hzk,ab,b2],.inr ⟨rfl,fun hF=>hzz ((oH hl).1 hF k _ _ hm hzk)⟩⟩
    ·right
     have:k=mem.length:=by omega
     subst this
     refine⟨Ex.dS (mem.take mem.length++List.replicate (mem.length-mem.length) []),by simp only[F.lc,ff,cond_false],.inl ⟨?_,(oH hl).2 fun j r z hr hz'=>e3 j r z (eT hr) hr hz'⟩⟩
     rw[nm,pf];simp) fu (0,List.replicate (Int.toNat (mem.length:Int)) []) ⟨0,rfl,gY _,by simp,fun j r z hj=>by omega⟩ (by simp only;omega)
  have hc:F.gL fu n mem=eR (fun r=>r) (some r) (fun m8=>some ((0:Int),m8)):=by
   unfold F.gL
   simp only[b,cond_false]
   rw[bK]
   rotate_left
   ·omega
   rw[ab,bK (tV _),ab,h1]
  rcases h2 with ⟨rfl,hF⟩ | ⟨rfl,hF⟩
  ·exact .inl ⟨hF,hc⟩
  ·exact .inr ⟨hF,6,by decide,hc⟩
 ·have b:((mem.length:Int) !=(n.cA.length:Int))=true:=by simp;omega
  refine .inr ⟨fun h=>hl h.len,2,by decide,?_⟩
  unfold F.gL;rw[b];rfl
theorem Pn (fu:Nat) (a:List (List Int)) (hl:a.length≤1048576) (hr:∀r∈a,r.length≤65536) (hf:2000000<fu):F.gu fu a a=some true:=by
 have hloop:=jO (body:=F.gT fu a a) a (fun (_:Unit) i=>i) (fun _ r=>some (.inl ())) (fun _=>Ex.dS ())
  (fun _ k r hk=>by
   have hw:=du (eT hk) (by omega)
   have hrl:=hr r (ar hk)
   have b:((r.length:Int) !=(r.length:Int))=false:=by simp
   have hin:=jO (body:=F.gU fu a a (k:Int) r) r (fun (_:Unit) i=>i) (fun _ x=>some (.inl ())) (fun _=>Ex.dS ())
    (fun _ j x hj=>by
     have hw:=du (eT hj) (by omega)
     have b:(x !=x)=false:=by simp
     simp only[F.gU,dec_lt hj,cond_true,bJ hk,bJ hj,ab,b,cond_false,hw]
     rfl)
    (fun _=>by simp only[F.gU,ff,cond_false]) fu (by omega) ()
   rw[uH (fun _ _=>())] at hin
   simp only[F.gT,dec_lt hk,cond_true,bJ hk,ab,b,cond_false,hin,hw]
   rfl)
  (fun _=>by simp only[F.gT,ff,cond_false]) fu (by omega) ()
 rw[uH (fun _ _=>())] at hloop
 have b:((a.length:Int) !=(a.length:Int))=false:=by simp
 unfold F.gu
 simp only[b,cond_false]
 rw[hloop];rfl
end Go.DN
