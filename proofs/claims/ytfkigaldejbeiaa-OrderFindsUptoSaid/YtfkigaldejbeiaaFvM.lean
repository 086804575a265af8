/-
  Orders: the plain law of OrderRuns: the reference's times, and its least ones.
-/
import Derived.Test.YtfkigaldejbeiaaFvL
import Derived.Test.YtfkigaldejbeiaaFqA
set_option linter.unusedSectionVars false
set_option linter.unusedSimpArgs false
set_option linter.unusedVariables false
namespace Go.DN.So
open Go.AM Go.DN
def arr (a:SArr8):List Int:=[a.a0,a.a1,a.a2,a.a3,a.a4,a.a5,a.a6,a.a7]
theorem list8 {l:List Int}(h:l.length=8):[l.getD 0 0,l.getD 1 0,l.getD 2 0,l.getD 3 0,l.getD 4 0,l.getD 5 0,l.getD 6 0,l.getD 7 0]=l:=by
 match l,h with
 | [a,b,c,d,e,f,g,i],_=>rfl
def tup8 (k:Nat) (l:List Int):Int×Int×Int×Int×Int×Int×Int×Int×Int:=((k:Int),l.getD 0 0,l.getD 1 0,l.getD 2 0,l.getD 3 0,l.getD 4 0,l.getD 5 0,l.getD 6 0,l.getD 7 0)
structure GoodQ (n:SNest) (times:List (List SRow)) (q:SSpot):Prop where
 pos:0≤q.Stmt
 ex:∃s rows,n.Stmts[q.Stmt.toNat]?=some s∧times[q.Stmt.toNat]?=some rows∧GoodS n s∧Ran q.At∧q.At.length=s.Over.Box.length∧rows.length≤8∧∀r∈rows,rowW r s.Over.Box.length=0
theorem idxT {α:Type}{l:List α}{i:Int}{x:α}(h:0≤i) (hx:l[i.toNat]?=some x):idx l i=some x:=by
 obtain⟨k,rfl⟩:=Int.eq_ofNat_of_zero_le h
 exact idx_nat hx
theorem time_step (fu:Nat){q:SSpot}{rows:List SRow}{k:Nat}{r:SRow}{v:Int}(hk:rows[k]?=some r) (h8:rows.length≤8) (ha:F.adjointref9_At fu r q.At=some v){L:List Int}(hL:L.length=8):
  F.adjointref11_Time_l1 fu q rows (tup8 k L)=some (.inl (tup8 (k+1) (L.set k v))):=by
 match L,hL with
 | [a,b,c,d,e,f,g,i],_=>
  have hk2:=get_lt hk
  have hw:=wrap_succ hk2 (by omega)
  have c1:=chk_pos (p:=(0:Int)≤(k:Int)∧(k:Int)<((8:Nat):Int)) (by omega)
  show F.adjointref11_Time_l1 fu q rows ((k:Int),a,b,c,d,e,f,g,i)=_
  simp only[F.adjointref11_Time_l1,dec_lt hk,cond_true,idx_nat hk,Option.bind_some,ha,hw,c1,Int.toNat_natCast]
  rw[chk_pos (show k<[a,b,c,d,e,f,g,i].length by simp;omega)]
  rfl
theorem time_end (fu:Nat) (q:SSpot) (rows:List SRow) (L:List Int):F.adjointref11_Time_l1 fu q rows (tup8 rows.length L)=some (.inr (tup8 0 L).2):=by
 unfold tup8
 simp only[F.adjointref11_Time_l1,dec_end,cond_false]
theorem time_ok (fu:Nat){n:SNest}{times:List (List SRow)}{q:SSpot}(g:GoodQ n times q) (hf:10<fu):∃a,F.adjointref11_Time fu times q=some a∧arr a=tmS 8 times q:=by
 obtain⟨s,rows,h1,h2,h3,h4,h5,h6,h7⟩:=g.ex
 have hgd:times.getD q.Stmt.toNat []=rows:=by rw[List.getD_eq_getElem?_getD,h2];rfl
 have hlen:(tmV rows q.At).length=rows.length:=by simp[tmV]
 have hL:∀k,k≤rows.length→((tmV rows q.At).take k++List.replicate (8-k) 0).length=8:=fun k hk=>by rw[List.length_append,List.length_take,List.length_replicate];omega
 have:=PL.loop_acc (body:=F.adjointref11_Time_l1 fu q rows) rows (fun k=>tup8 k ((tmV rows q.At).take k++List.replicate (8-k) 0)) (tup8 0 (padT 8 (tmV rows q.At))).2
  (fun k r hk=>by
   have hk2:=get_lt hk
   have ha:=refAt_ok fu (h3.over.with (h7 r (List.mem_of_getElem? hk))) (r:=r) (by simp) h4 h5 hf
   have ht:(tmV rows q.At)[k]?=some (atV r q.At):=by simp[tmV,hk]
   rw[time_step fu hk h6 ha (hL k (by omega)),pad_set (show k<8 by omega) ht])
  (by rw[time_end,←hlen,List.take_length];rfl) fu (by omega)
 have this:loopF (F.adjointref11_Time_l1 fu q rows) fu (0,0,0,0,0,0,0,0,0)=some (tup8 0 (padT 8 (tmV rows q.At))).2:=this
 have hP:(padT 8 (tmV rows q.At)).length=8:=by unfold padT;rw[List.length_append,List.length_replicate];omega
 refine⟨_,by unfold F.adjointref11_Time;rw[idxT g.pos h2,Option.bind_some,this];rfl,?_⟩
 unfold tmS
 rw[hgd]
 exact list8 hP
theorem getD_idx {l:List Int}{i:Nat}(h:i<l.length):l.getD i 0=l[i]:=by rw[List.getD_eq_getElem?_getD,List.getElem?_eq_getElem h];rfl
theorem before_ok (fu:Nat) (a b:SArr8) (hf:10<fu):F.adjointref11_Before fu a b=some (ltL (arr a) (arr b)):=by
 have key:∀(m k fuel:Nat),k+m=8→m<fuel→bindE (fun r=>r) (loopF (F.adjointref11_Before_l1 fu a b) fuel (k:Int):Option (Ex Unit Bool)) (fun (_:Unit)=>some false)=some (ltL ((arr a).drop k) ((arr b).drop k)):=by
  intro m
  induction m with
  | zero=>
   intro k fuel h1 h2
   obtain⟨fuel,rfl⟩:∃f,fuel=f+1:=⟨fuel-1,by omega⟩
   obtain rfl:k=8:=by omega
   rfl
  | succ m ih=>
   intro k fuel h1 h2
   obtain⟨fuel,rfl⟩:∃f,fuel=f+1:=⟨fuel-1,by omega⟩
   have l1:(arr a).length=8:=rfl
   have l2:(arr b).length=8:=rfl
   have hw:IntKind.i64.wrap ((k:Int)+1)=((k+1:Nat):Int):=by rw[i64 (by omega) (by omega)];omega
   have c1:=chk_pos (p:=(0:Int)≤(k:Int)∧(k:Int)<((8:Nat):Int)) (by omega)
   have c2:=chk_pos (p:=(k:Int).toNat<[a.a0,a.a1,a.a2,a.a3,a.a4,a.a5,a.a6,a.a7].length) (by simp;omega)
   have c3:=chk_pos (p:=(k:Int).toNat<[b.a0,b.a1,b.a2,b.a3,b.a4,b.a5,b.a6,b.a7].length) (by simp;omega)
   have d:decide ((k:Int)<8)=true:=PL.dec_true (by omega)
   have g1:[a.a0,a.a1,a.a2,a.a3,a.a4,a.a5,a.a6,a.a7].getD (k:Int).toNat 0=(arr a)[k]:=by rw[Int.toNat_natCast];exact getD_idx (l:=arr a) (by omega)
   have g2:[b.a0,b.a1,b.a2,b.a3,b.a4,b.a5,b.a6,b.a7].getD (k:Int).toNat 0=(arr b)[k]:=by rw[Int.toNat_natCast];exact getD_idx (l:=arr b) (by omega)
   rw[List.drop_eq_getElem_cons (by omega:k<(arr a).length),List.drop_eq_getElem_cons (by omega:k<(arr b).length)]
   simp only[loopF,F.adjointref11_Before_l1,d,cond_true,c1,c2,c3,Option.bind_some,g1,g2,ltL]
   by_cases he:(arr a)[k]=(arr b)[k]
   ·simp only[PL.bne_false he,cond_false,hw]
    rw[ih (k+1) fuel (by omega) (by omega),if_neg (by omega),if_neg (by omega)]
   ·simp only[PL.bne_true he,cond_true]
    by_cases hl:(arr a)[k]<(arr b)[k]
    ·rw[PL.dec_true hl,if_pos hl];rfl
    ·rw[PL.dec_false hl,if_neg hl,if_pos (by omega)];rfl
 exact key 8 0 fu rfl (by omega)
theorem eqI_ok:∀a b:List Int,eqI a b=decide (a=b)
 | [],[]=>rfl
 | [],_::_=>rfl
 | _::_,[]=>rfl
 | x::xs,y::ys=>by
  simp only[eqI,eqI_ok xs ys,List.cons.injEq]
  by_cases h:x=y <;> simp[h]
def isT (T:SSpot→List Int) (t:List Int) (q:SSpot):Bool:=decide (T q=t)
def ints (l:List Nat):List Int:=l.map fun (i:Nat)=>(i:Int)
end Go.DN.So
