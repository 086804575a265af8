/-
  Orders: the plain law of OrderRuns: one turn after the other.
-/
import Derived.Test.YtfkigaldejbeiaaFvM
set_option linter.unusedSectionVars false
set_option linter.unusedSimpArgs false
set_option linter.unusedVariables false
namespace Go.DN.So
open Go.AM Go.DN
theorem ltL_pad:∀{a b:List Int}(z:List Int),a.length=b.length→ltL (a++z) (b++z)=ltL a b
 | [],[],z,_=>ltL_irr z
 | [],_::_,z,h=>by simp at h
 | _::_,[],z,h=>by simp at h
 | x::a,y::b,z,h=>by
  simp only[List.cons_append,ltL,ltL_pad (a:=a) (b:=b) z (by simpa using h)]
theorem pad8 {l:List Int}{long:Nat}(h:l.length≤long) (h8:long≤8):padT 8 l=padT long l++List.replicate (8-long) 0:=by
 unfold padT
 rw[List.append_assoc,List.replicate_append_replicate,show long-l.length+(8-long)=8-l.length by omega]
theorem tm8 {n:SNest}{times:List (List SRow)}{long:Nat}(h8:long≤8) (hl:∀x∈times,x.length≤long){q:SSpot}(g:GoodQ n times q):tmS 8 times q=tmS long times q++List.replicate (8-long) 0∧(tmS long times q).length=long:=by
 obtain⟨s,rows,h1,h2,_⟩:=g.ex
 have hgd:times.getD q.Stmt.toNat []=rows:=by rw[List.getD_eq_getElem?_getD,h2];rfl
 have hr:=hl rows (List.mem_of_getElem? h2)
 unfold tmS
 rw[hgd]
 have hlen:(tmV rows q.At).length=rows.length:=by simp[tmV]
 exact⟨pad8 (by omega) h8,by unfold padT;rw[List.length_append,List.length_replicate];omega⟩
theorem pick_ok (mix:List Int) (turn L:Nat) (hL:0<L) (hL2:L≤2000) (ht:turn≤5000):∃k turn':Nat,k<L∧turn'≤turn+1∧
  ((cond (decide ((mix.length:Int)>0)) ((chk ((mix.length:Int)≠0)).bind fun _=>(idx mix (Int.tmod (turn:Int) (mix.length:Int))).bind fun x27=>(chk ((L:Int)≠0)).bind fun _=>(chk ((L:Int)≠0)).bind fun _=>
   some (Int.tmod (IntKind.wrap .i64 ((Int.tmod x27 (L:Int))+(L:Int))) (L:Int),IntKind.wrap .i64 ((turn:Int)+1))) (some (0,(turn:Int))))=some ((k:Int),(turn':Int)))∧
  ∀m:List Int,m.length=L→∀i0,idx m 0=some i0→∀i,idx m (k:Int)=some i→((cond (decide ((mix.length:Int)>0)) ((chk ((mix.length:Int)≠0)).bind fun _=>(idx mix (Int.tmod (turn:Int) (mix.length:Int))).bind fun x29=>(chk ((m.length:Int)≠0)).bind fun _=>
   (cond (decide ((Int.tmod x29 (m.length:Int))<0)) (some (IntKind.wrap .i64 ((Int.tmod x29 (m.length:Int))+(m.length:Int)))) (some (Int.tmod x29 (m.length:Int)))).bind fun (k30:Int)=>
   (idx m k30).bind fun x31=>some (x31,IntKind.wrap .i64 ((turn:Int)+1))) (some (i0,(turn:Int))))=some (i,(turn':Int))):=by
 have wt:IntKind.i64.wrap ((turn:Int)+1)=((turn+1:Nat):Int):=by rw[i64 (by omega) (by omega)];omega
 by_cases hm:0<mix.length
 ·have d:decide ((mix.length:Int)>0)=true:=PL.dec_true (by omega)
  have c1:=chk_pos (p:=(mix.length:Int)≠0) (by omega)
  have c2:=chk_pos (p:=(L:Int)≠0) (by omega)
  have e1:Int.tmod (turn:Int) (mix.length:Int)=((turn%mix.length:Nat):Int):=by
   rw[Int.tmod_eq_emod_of_nonneg (by omega)];exact(Int.natCast_emod _ _).symm
  have hx:mix[turn%mix.length]?=some (mix[turn%mix.length]'(Nat.mod_lt _ hm)):=List.getElem?_eq_getElem _
  generalize mix[turn%mix.length]'(Nat.mod_lt _ hm)=x at hx
  have hi:=idx_nat hx
  have b1:Int.tmod x (L:Int)<L:=Int.tmod_lt_of_pos x (by omega)
  have b2:-(L:Int)<Int.tmod x (L:Int):=Int.lt_tmod_of_pos x (by omega)
  generalize hr:Int.tmod x (L:Int)=r at b1 b2
  have hw:IntKind.i64.wrap (r+(L:Int))=r+L:=i64 (by omega) (by omega)
  by_cases h0:r<0
  ·obtain⟨k,hk⟩:=Int.eq_ofNat_of_zero_le (show 0≤r+L by omega)
   refine⟨k,turn+1,by omega,by omega,?_,fun m hml i0 _ i hi2=>?_⟩
   ·simp only[d,cond_true,c1,Option.bind_some,e1,hi,c2,hr,hw,wt]
    rw[Int.tmod_eq_emod_of_nonneg (by omega),Int.emod_eq_of_lt (by omega) (by omega),hk]
   ·have c3:=chk_pos (p:=(m.length:Int)≠0) (by omega)
    simp only[d,cond_true,c1,Option.bind_some,e1,hi,c3]
    simp only[hml,hr,hw.trans hk,wt,PL.dec_true h0,cond_true,Option.bind_some,hi2]
  ·obtain⟨k,rfl⟩:=Int.eq_ofNat_of_zero_le (show 0≤r by omega)
   refine⟨k,turn+1,by omega,by omega,?_,fun m hml i0 _ i hi2=>?_⟩
   ·simp only[d,cond_true,c1,Option.bind_some,e1,hi,c2,hr,hw,wt]
    rw[Int.tmod_eq_emod_of_nonneg (by omega),Int.add_emod_right,Int.emod_eq_of_lt (by omega) (by omega)]
   ·have c3:=chk_pos (p:=(m.length:Int)≠0) (by omega)
    simp only[d,cond_true,c1,Option.bind_some,e1,hi,c3]
    simp only[hml,hr,hw,wt,PL.dec_false h0,cond_false,Option.bind_some,hi2]
 ·have d:decide ((mix.length:Int)>0)=false:=PL.dec_false (by omega)
  refine⟨0,turn,hL,by omega,by simp only[d,cond_false];rfl,fun m hml i0 h0 i hi=>?_⟩
  have:i0=i:=by
   have hi:idx m 0=some i:=hi
   rw[h0] at hi;exact Option.some.inj hi
  simp only[d,cond_false,this]
end Go.DN.So
