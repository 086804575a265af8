/-
  Orders: the plain law of OrderRuns: one en after the other.
-/
import Derived.Test.YtfkigaldejbeiaaFvM
set_option linter.unusedSectionVars false
set_option linter.unusedSimpArgs false
set_option linter.unusedVariables false
namespace Go.DN.So
open Go.AM Go.DN
theorem DL:∀{a b:List Int}(z:List Int),a.length=b.length→jr (a++z) (b++z)=jr a b
 | [],[],z,_=>zP z
 | [],_::_,z,h=>by simp at h
 | _::_,[],z,h=>by simp at h
 | x::a,y::b,z,h=>by
  simp only[bx,jr,DL (a:=a) (b:=b) z (by simpa using h)]
theorem SD {l:List Int}{long:Nat}(h:l.length≤long) (h8:long≤8):qD 8 l=qD long l++List.replicate (8-long) 0:=by
 unfold qD
 rw[aC,List.replicate_append_replicate,show long-l.length+(8-long)=8-l.length by omega]
theorem Sk {n:aO}{times:List (List aT)}{long:Nat}(h8:long≤8) (hl:∀x∈times,x.length≤long){q:bD}(g:xQ n times q):sx 8 times q=sx long times q++List.replicate (8-long) 0∧(sx long times q).length=long:=by
 obtain⟨s,rows,h1,h2,_⟩:=g.ex
 have hgd:times.getD q.Stmt.toNat []=rows:=by rw[aM,h2];rfl
 have hr:=hl rows (ar h2)
 unfold sx
 rw[hgd]
 have hlen:(qo rows q.At).length=rows.length:=by simp[qo]
 exact⟨SD (by omega) h8,by unfold qD;rw[ak,gK];omega⟩
theorem qB (mix:List Int) (en L:Nat) (hL:0<L) (hL2:L≤2000) (ht:en≤5000):∃k turn':Nat,k<L∧turn'≤en+1∧
  ((cond (decide ((mix.length:Int)>0)) ((bq ((mix.length:Int)≠0)).bind fun _=>(idx mix (Int.tmod (en:Int) (mix.length:Int))).bind fun x27=>(bq ((L:Int)≠0)).bind fun _=>(bq ((L:Int)≠0)).bind fun _=>
   some (Int.tmod (IntKind.wrap .i64 ((Int.tmod x27 (L:Int))+(L:Int))) (L:Int),IntKind.wrap .i64 ((en:Int)+1))) (some (0,(en:Int))))=some ((k:Int),(turn':Int)))∧
  ∀m:List Int,m.length=L→∀i0,idx m 0=some i0→∀i,idx m (k:Int)=some i→((cond (decide ((mix.length:Int)>0)) ((bq ((mix.length:Int)≠0)).bind fun _=>(idx mix (Int.tmod (en:Int) (mix.length:Int))).bind fun x29=>(bq ((m.length:Int)≠0)).bind fun _=>
   (cond (decide ((Int.tmod x29 (m.length:Int))<0)) (some (IntKind.wrap .i64 ((Int.tmod x29 (m.length:Int))+(m.length:Int)))) (some (Int.tmod x29 (m.length:Int)))).bind fun (k30:Int)=>
   (idx m k30).bind fun x31=>some (x31,IntKind.wrap .i64 ((en:Int)+1))) (some (i0,(en:Int))))=some (i,(turn':Int))):=by
 have wt:IntKind.i64.wrap ((en:Int)+1)=((en+1:Nat):Int):=by rw[i64 (by omega) (by omega)];omega
 by_cases hm:0<mix.length
 ·have d:decide ((mix.length:Int)>0)=true:=PL.dl (by omega)
  have c1:=bK (p:=(mix.length:Int)≠0) (by omega)
  have c2:=bK (p:=(L:Int)≠0) (by omega)
  have e1:Int.tmod (en:Int) (mix.length:Int)=((en%mix.length:Nat):Int):=by
   rw[Int.tmod_eq_emod_of_nonneg (by omega)];exact(Int.natCast_emod _ _).symm
  have hx:mix[en%mix.length]?=some (mix[en%mix.length]'(mK _ hm)):=ag _
  generalize mix[en%mix.length]'(mK _ hm)=x at hx
  have hi:=bJ hx
  have b1:Int.tmod x (L:Int)<L:=Int.tmod_lt_of_pos x (by omega)
  have b2:-(L:Int)<Int.tmod x (L:Int):=Int.lt_tmod_of_pos x (by omega)
  generalize hr:Int.tmod x (L:Int)=r at b1 b2
  have hw:IntKind.i64.wrap (r+(L:Int))=r+L:=i64 (by omega) (by omega)
  by_cases h0:r<0
  ·obtain⟨k,hk⟩:=kW (show 0≤r+L by omega)
   refine⟨k,en+1,by omega,by omega,?_,fun m hml i0 _ i lr=>?_⟩
   ·simp only[d,cond_true,c1,ae,e1,hi,c2,hr,hw,wt]
    rw[Int.tmod_eq_emod_of_nonneg (by omega),Int.emod_eq_of_lt (by omega) (by omega),hk]
   ·have c3:=bK (p:=(m.length:Int)≠0) (by omega)
    simp only[d,cond_true,c1,ae,e1,hi,c3]
    simp only[hml,hr,hw.trans hk,wt,PL.dl h0,cond_true,ae,lr]
  ·obtain⟨k,rfl⟩:=kW (show 0≤r by omega)
   refine⟨k,en+1,by omega,by omega,?_,fun m hml i0 _ i lr=>?_⟩
   ·simp only[d,cond_true,c1,ae,e1,hi,c2,hr,hw,wt]
    rw[Int.tmod_eq_emod_of_nonneg (by omega),Int.add_emod_right,Int.emod_eq_of_lt (by omega) (by omega)]
   ·have c3:=bK (p:=(m.length:Int)≠0) (by omega)
    simp only[d,cond_true,c1,ae,e1,hi,c3]
    simp only[hml,hr,hw,wt,PL.cy h0,cond_false,ae,lr]
 ·have d:decide ((mix.length:Int)>0)=false:=PL.cy (by omega)
  refine⟨0,en,hL,by omega,by simp only[d,cond_false];rfl,fun m hml i0 h0 i hi=>?_⟩
  have:i0=i:=by
   have hi:idx m 0=some i:=hi
   rw[h0] at hi;exact kv hi
  simp only[d,cond_false,this]
theorem M6 {α:Type}(l m:List α) (o n:Nat):iF l m o n=l.take o++(m.take (Nat.min m.length n)++l.drop (o+Nat.min m.length n)):=by unfold iF;rw[aC]
theorem RA (fu:Nat) (N1 N2 J:List af) (y:af) (h:N1.length+N2.length+J.length≤5000){a b c d:Int}(ha:a=0) (hb:b=((N1.length+1+N2.length:Nat):Int)) (hc:c=(N1.length:Int)) (hd:d=((N1.length+1:Nat):Int)):
  ∃J':List af,J'.length=J.length+1∧F.mw fu a b c d (N1++(y::(N2++J)))=some (0,((N1.length+N2.length:Nat):Int),N1++(N2++J')):=by
 subst ha hb hc hd
 have hl:(N1++(y::(N2++J))).length=N1.length+1+N2.length+J.length:=by simp;omega
 have hdr:((N1++(y::(N2++J))).drop (0+(N1.length+1))).take (N1.length+1+N2.length-(N1.length+1))=N2:=by
  rw[bQ,show N1++(y::(N2++J))=(N1++[y])++(N2++J) by simp,List.drop_append_of_le_length (by simp),eF (by simp),dc,show N1.length+1+N2.length-(N1.length+1)=N2.length by omega]
  simp
 have hX:iF (N1++(y::(N2++J))) N2 N1.length N2.length=N1++(N2++(N1++(y::(N2++J))).drop (N1.length+N2.length)):=by
  rw[M6,show Nat.min N2.length N2.length=N2.length from Nat.min_self _,nu]
  simp
 have hXl:=p8 (l:=N1++(y::(N2++J))) (m:=N2) (o:=N1.length) (n:=N2.length) (by omega)
 have hfin:∀z:af,∃J':List af,J'.length=J.length+1∧iF (iF (N1++(y::(N2++J))) N2 N1.length N2.length) [z] (N1.length+N2.length) 1=N1++(N2++J'):=fun z=>by
  have e2:=p8 (l:=iF (N1++(y::(N2++J))) N2 N1.length N2.length) (m:=[z]) (o:=N1.length+N2.length) (n:=1) (by rw[hXl,hl];omega)
  rw[hXl,hl] at e2
  rw[M6 (iF _ _ _ _),hX] at e2⊢
  have:(N1++(N2++(N1++(y::(N2++J))).drop (N1.length+N2.length))).take (N1.length+N2.length)=N1++N2:=by
   rw[←aC,List.take_append_of_le_length (by simp),b6 (by simp)]
  rw[this] at e2⊢
  refine⟨_,?_,by rw[aC]⟩
  rw[ak] at e2
  simp only[ak] at e2⊢
  omega
 obtain⟨J',j1,j2⟩:=hfin (⟨(⟨0,([]:List Int)⟩:bD),0,([]:List Int)⟩:af)
 refine⟨J',j1,?_⟩
 unfold F.mw
 have e0:((N1.length:Int)==((N1.length+1:Nat):Int))=false:=by simp;omega
 have z0:Int.toNat 0=0:=rfl
 have n1:N1.length+(N1.length+1+N2.length-(N1.length+1))=N1.length+N2.length:=by omega
 have n2:N1.length+1+N2.length-(N1.length+N2.length)=1:=by omega
 have n3:N1.length+1+N2.length-(N1.length+1)=N2.length:=by omega
 simp only[bh,z0,e0,cond_false,hdr,n1,n2,n3,bQ,List.replicate_one]
 rw[bQ,n3] at hdr
 rw[hdr]
 rw[bK (by omega),ae,bK (by omega),ae,bK (by omega),ae,bK (by refine⟨trivial,?_,?_⟩ <;> (rw[hl];omega)),ae,bK (by rw[hXl,hl];omega),ae,bK (by rw[hXl,hl];omega),ae,j2]
 rfl
end Go.DN.So
