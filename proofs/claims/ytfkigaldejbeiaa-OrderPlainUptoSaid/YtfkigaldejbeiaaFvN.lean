/-
  Orders: the plain law of OrderRuns: one eo after the other.
-/
import Derived.Test.YtfkigaldejbeiaaFvM
set_option linter.unusedSimpArgs false
set_option linter.unusedVariables false
namespace Go.DN.So
open Go.AM Go.DN
theorem Ag:∀{a b:List Int}(z:List Int),a.length=b.length→g8 (a++z) (b++z)=g8 a b
 | [],[],z,_=>wk z
 | [],_::_,z,h=>by simp at h
 | _::_,[],z,h=>by simp at h
 | x::a,y::b,z,h=>by
  simp only[bx,g8,Ag (a:=a) (b:=b) z (by simpa using h)]
theorem S7 {l:List Int}{long:Nat}(h:l.length≤long) (h8:long≤8):pQ 8 l=pQ long l++List.replicate (8-long) 0:=by
 unfold pQ
 rw[aC,List.replicate_append_replicate,show long-l.length+(8-long)=8-l.length by omega]
theorem SO {n:aM}{times:List (List aO)}{long:Nat}(h8:long≤8) (hl:∀x∈times,x.length≤long){q:bE}(g:yg n times q):ph 8 times q=ph long times q++List.replicate (8-long) 0∧(ph long times q).length=long:=by
 obtain⟨s,rows,h1,h2,_⟩:=g.ex
 have hgd:times.getD q.Stmt.toNat []=rows:=by rw[aE,h2];rfl
 have hr:=hl rows (ar h2)
 unfold ph
 rw[hgd]
 have hlen:(pg rows q.At).length=rows.length:=by simp[pg]
 exact⟨S7 (by omega) h8,by unfold pQ;rw[ak,eY];omega⟩
theorem qI (mix:List Int) (eo L:Nat) (hL:0<L) (hL2:L≤2000) (ht:eo≤5000):∃k turn':Nat,k<L∧turn'≤eo+1∧
  ((cond (decide ((mix.length:Int)>0)) ((bo ((mix.length:Int)≠0)).bind fun _=>(idx mix (Int.tmod (eo:Int) (mix.length:Int))).bind fun x27=>(bo ((L:Int)≠0)).bind fun _=>(bo ((L:Int)≠0)).bind fun _=>
   some (Int.tmod (IntKind.wrap .i64 ((Int.tmod x27 (L:Int))+(L:Int))) (L:Int),IntKind.wrap .i64 ((eo:Int)+1))) (some (0,(eo:Int))))=some ((k:Int),(turn':Int)))∧
  ∀m:List Int,m.length=L→∀i0,idx m 0=some i0→∀i,idx m (k:Int)=some i→((cond (decide ((mix.length:Int)>0)) ((bo ((mix.length:Int)≠0)).bind fun _=>(idx mix (Int.tmod (eo:Int) (mix.length:Int))).bind fun x29=>(bo ((m.length:Int)≠0)).bind fun _=>
   (cond (decide ((Int.tmod x29 (m.length:Int))<0)) (some (IntKind.wrap .i64 ((Int.tmod x29 (m.length:Int))+(m.length:Int)))) (some (Int.tmod x29 (m.length:Int)))).bind fun (k30:Int)=>
   (idx m k30).bind fun x31=>some (x31,IntKind.wrap .i64 ((eo:Int)+1))) (some (i0,(eo:Int))))=some (i,(turn':Int))):=by
 have wt:IntKind.i64.wrap ((eo:Int)+1)=((eo+1:Nat):Int):=by rw[i64 (by omega) (by omega)];omega
 by_cases hm:0<mix.length
 ·have d:decide ((mix.length:Int)>0)=true:=PL.du (by omega)
  have c1:=bJ (p:=(mix.length:Int)≠0) (by omega)
  have c2:=bJ (p:=(L:Int)≠0) (by omega)
  have e1:Int.tmod (eo:Int) (mix.length:Int)=((eo%mix.length:Nat):Int):=by
   rw[Int.tmod_eq_emod_of_nonneg (by omega)];exact(Int.natCast_emod _ _).symm
  have hx:mix[eo%mix.length]?=some (mix[eo%mix.length]'(mP _ hm)):=ag _
  generalize mix[eo%mix.length]'(mP _ hm)=x at hx
  have hi:=bM hx
  have b1:Int.tmod x (L:Int)<L:=Int.tmod_lt_of_pos x (by omega)
  have b2:-(L:Int)<Int.tmod x (L:Int):=Int.lt_tmod_of_pos x (by omega)
  generalize hr:Int.tmod x (L:Int)=r at b1 b2
  have hw:IntKind.i64.wrap (r+(L:Int))=r+L:=i64 (by omega) (by omega)
  by_cases h0:r<0
  ·obtain⟨k,hk⟩:=kZ (show 0≤r+L by omega)
   refine⟨k,eo+1,by omega,by omega,?_,fun m hml i0 _ i lC=>?_⟩
   ·simp only[d,cond_true,c1,ae,e1,hi,c2,hr,hw,wt]
    rw[Int.tmod_eq_emod_of_nonneg (by omega),Int.emod_eq_of_lt (by omega) (by omega),hk]
   ·have c3:=bJ (p:=(m.length:Int)≠0) (by omega)
    simp only[d,cond_true,c1,ae,e1,hi,c3]
    simp only[hml,hr,hw.trans hk,wt,PL.du h0,cond_true,ae,lC]
  ·obtain⟨k,rfl⟩:=kZ (show 0≤r by omega)
   refine⟨k,eo+1,by omega,by omega,?_,fun m hml i0 _ i lC=>?_⟩
   ·simp only[d,cond_true,c1,ae,e1,hi,c2,hr,hw,wt]
    rw[Int.tmod_eq_emod_of_nonneg (by omega),Int.add_emod_right,Int.emod_eq_of_lt (by omega) (by omega)]
   ·have c3:=bJ (p:=(m.length:Int)≠0) (by omega)
    simp only[d,cond_true,c1,ae,e1,hi,c3]
    simp only[hml,hr,hw,wt,PL.cA h0,cond_false,ae,lC]
 ·have d:decide ((mix.length:Int)>0)=false:=PL.cA (by omega)
  refine⟨0,eo,hL,by omega,by simp only[d,cond_false];rfl,fun m hml i0 h0 i hi=>?_⟩
  have:i0=i:=by
   have hi:idx m 0=some i:=hi
   rw[h0] at hi;exact kA hi
  simp only[d,cond_false,this]
theorem Nx {α:Type}(l m:List α) (o n:Nat):iJ l m o n=l.take o++(m.take (Nat.min m.length n)++l.drop (o+Nat.min m.length n)):=by unfold iJ;rw[aC]
theorem R1 (fu:Nat) (N1 N2 J:List af) (y:af) (h:N1.length+N2.length+J.length≤5000){a b c d:Int}(ha:a=0) (hb:b=((N1.length+1+N2.length:Nat):Int)) (hc:c=(N1.length:Int)) (hd:d=((N1.length+1:Nat):Int)):
  ∃J':List af,J'.length=J.length+1∧F.mD fu a b c d (N1++(y::(N2++J)))=some (0,((N1.length+N2.length:Nat):Int),N1++(N2++J')):=by
 subst ha hb hc hd
 have hl:(N1++(y::(N2++J))).length=N1.length+1+N2.length+J.length:=by simp;omega
 have hdr:((N1++(y::(N2++J))).drop (0+(N1.length+1))).take (N1.length+1+N2.length-(N1.length+1))=N2:=by
  rw[bT,show N1++(y::(N2++J))=(N1++[y])++(N2++J) by simp,List.drop_append_of_le_length (by simp),eI (by simp),dj,show N1.length+1+N2.length-(N1.length+1)=N2.length by omega]
  simp
 have hX:iJ (N1++(y::(N2++J))) N2 N1.length N2.length=N1++(N2++(N1++(y::(N2++J))).drop (N1.length+N2.length)):=by
  rw[Nx,show Nat.min N2.length N2.length=N2.length from Nat.min_self _,nz]
  simp
 have hXl:=qg (l:=N1++(y::(N2++J))) (m:=N2) (o:=N1.length) (n:=N2.length) (by omega)
 have hfin:∀z:af,∃J':List af,J'.length=J.length+1∧iJ (iJ (N1++(y::(N2++J))) N2 N1.length N2.length) [z] (N1.length+N2.length) 1=N1++(N2++J'):=fun z=>by
  have e2:=qg (l:=iJ (N1++(y::(N2++J))) N2 N1.length N2.length) (m:=[z]) (o:=N1.length+N2.length) (n:=1) (by rw[hXl,hl];omega)
  rw[hXl,hl] at e2
  rw[Nx (iJ _ _ _ _),hX] at e2⊢
  have:(N1++(N2++(N1++(y::(N2++J))).drop (N1.length+N2.length))).take (N1.length+N2.length)=N1++N2:=by
   rw[←aC,List.take_append_of_le_length (by simp),b8 (by simp)]
  rw[this] at e2⊢
  refine⟨_,?_,by rw[aC]⟩
  rw[ak] at e2
  simp only[ak] at e2⊢
  omega
 obtain⟨J',j1,j2⟩:=hfin (⟨(⟨0,([]:List Int)⟩:bE),0,([]:List Int)⟩:af)
 refine⟨J',j1,?_⟩
 unfold F.mD
 have e0:((N1.length:Int)==((N1.length+1:Nat):Int))=false:=by simp;omega
 have z0:Int.toNat 0=0:=rfl
 have n1:N1.length+(N1.length+1+N2.length-(N1.length+1))=N1.length+N2.length:=by omega
 have n2:N1.length+1+N2.length-(N1.length+N2.length)=1:=by omega
 have n3:N1.length+1+N2.length-(N1.length+1)=N2.length:=by omega
 simp only[bc,z0,e0,cond_false,hdr,n1,n2,n3,bT,List.replicate_one]
 rw[bT,n3] at hdr
 rw[hdr]
 rw[bJ (by omega),ae,bJ (by omega),ae,bJ (by omega),ae,bJ (by refine⟨trivial,?_,?_⟩ <;> (rw[hl];omega)),ae,bJ (by rw[hXl,hl];omega),ae,bJ (by rw[hXl,hl];omega),ae,j2]
 rfl
end Go.DN.So
