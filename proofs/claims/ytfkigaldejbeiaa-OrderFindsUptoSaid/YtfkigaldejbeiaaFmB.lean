/-
  Orders: the plain law of OrderFinds: one step of order.pairs: who is there, who is seen.
-/
import Derived.Test.YtfkigaldejbeiaaFgA
set_option linter.unusedSectionVars false
set_option linter.unusedSimpArgs false
set_option linter.unusedVariables false
namespace Go.DN.So
open Go.AM Go.DN
structure Stp (d d':MDat):Prop where
 wm:WM d'
 n:d'.n≤d.n+1
 rows:∀a b j,rowsM d' a b j=rowsM d a b j
theorem atM_ok (fu:Nat){d:MDat}(w:WM d) (hn:d.n≤100000) (c:Scell):∃e d',F.order_pairs_1 fu c d=some (false,((e.t:Nat):Int),((0:Nat):Int),d')∧F.order_pairs_1 fu c d'=some (false,((e.t:Nat):Int),((0:Nat):Int),d')∧mget d'.es c.array c.at_=some e∧Stp d d':=by
 have here:∀{d:MDat}{e:MEnt},mget d.es c.array c.at_=some e→F.order_pairs_1 fu c d=some (false,((e.t:Nat):Int),((0:Nat):Int),d):=by
  intro d e h
  have h1:mgN d.es c.array c.at_=false:=by unfold mgN;rw[h]
  have h2:mgT d.es c.array c.at_=e.t:=by unfold mgT;rw[h]
  unfold F.order_pairs_1
  simp only[h1,h2,Bool.not_false,Bool.not_true,cond_false,Option.bind_some,Int.toNat_natCast]
 cases h:mget d.es c.array c.at_ with
 | some e=>exact⟨e,d,here h,here h,h,⟨w,Nat.le_succ _,fun _ _ _=>rfl⟩⟩
 | none=>
  have h1:mgN d.es c.array c.at_=true:=by unfold mgN;rw[h]
  have hm:mget (mput d c.array c.at_ 3).es c.array c.at_=some ⟨c.array,c.at_,d.n,List.replicate 3 (bigI,[])⟩:=by
   show mget (d.es++[_]) _ _=_
   rw[mget_app,h]
   simp[mget]
  refine⟨_,mput d c.array c.at_ 3,?_,here hm,hm,⟨w.put _ _,Nat.le_refl _,rows_put h⟩⟩
  unfold F.order_pairs_1
  have hc:∀i,@chk (d.n+1≤maxLen∧True) i=some ():=fun i=>by unfold chk;rw[if_pos ⟨by simp only[maxLen];omega,trivial⟩]
  simp only[h1,Bool.not_true,Bool.not_false,cond_true,Option.bind_some,hc,Int.toNat_natCast]
def stepB (p:Int→Bool) (f k:Int):Int:=if (f<0∨k<f)∧p k=true then k else f
def Seen (bd:Sspot→Sspot→Option Bool) (b:Sspot) (p:Int→Bool) (L:List Sspot) (l:List Int):Prop:=∀k∈l,∃a,idx L k=some a∧bd a b=some (p k)
theorem see_ok {bd:Sspot→Sspot→Option Bool}(fu:Nat){L:List Sspot}{b1:Int}{b2:List Int}{b3:Int}{b4:List Int}{p:Int→Bool}{k:Int}(h:∃a,idx L k=some a∧bd a ⟨⟨b1,b2⟩,b3,b4⟩=some (p k)) (f:Int):
  Gn.see bd fu k f L b1 b2 b3 b4=some (stepB p f k,L,b1,b2,b3,b4):=by
 obtain⟨a,h1,h2⟩:=h
 unfold Gn.see stepB
 by_cases c1:f<0
 ·simp only[PL.dec_true c1,cond_true,h1,h2,Option.bind_some]
  cases hp:p k with
  | true=>rw[if_pos ⟨.inl c1,rfl⟩];rfl
  | false=>rw[if_neg (fun h=>by cases h.2)];rfl
 ·by_cases c2:k<f
  ·simp only[PL.dec_false c1,PL.dec_true c2,cond_true,cond_false,h1,h2,Option.bind_some]
   cases hp:p k with
   | true=>rw[if_pos ⟨.inr c2,rfl⟩];rfl
   | false=>rw[if_neg (fun h=>by cases h.2)];rfl
  ·simp only[PL.dec_false c1,PL.dec_false c2,cond_false,Option.bind_some]
   rw[if_neg (fun h=>h.1.elim c1 c2)]
theorem dec_end' (l:List Int):decide (((l.length:Nat):Int)<((l.length:Nat):Int))=false:=by simp
theorem two_in {bd:Sspot→Sspot→Option Bool}(fu:Nat){L:List Sspot}{b1:Int}{b2:List Int}{b3:Int}{b4:List Int}{p:Int→Bool}{l1 m3 m4 m5 m6 v:Int}{d:MDat}{z:Nat}{l:List Int}
  (hz:([((Int.toNat m3),(Int.toNat m4)),((Int.toNat m5),(Int.toNat m6))]:List (Nat×Nat)).getD ((Int.toNat l1)+v.toNat) (0,0)=(z,l.length)) (hc:∀(i:Nat) (x:Int),l[i]?=some x→mcell d.es z i=some x)
  (hs:Seen bd ⟨⟨b1,b2⟩,b3,b4⟩ p L l) (hl:l.length≤100000) (hf:100000<fu) (f:Int):
  loopF (Gn.two_l1 bd fu l1 m3 m4 m5 m6 d v) fu (0,f,L,b1,b2,b3,b4)=some (l.foldl (stepB p) f,L,b1,b2,b3,b4):=by
 have:=PL.loop_acc (body:=Gn.two_l1 bd fu l1 m3 m4 m5 m6 d v) l (fun k=>((k:Int),(l.take k).foldl (stepB p) f,L,b1,b2,b3,b4)) (l.foldl (stepB p) f,L,b1,b2,b3,b4)
  (fun k x hk=>by
   have hw:=wrap_succ (get_lt hk) (by omega)
   have hlt:=get_lt hk
   have c1:=chk_pos (p:=(0:Int)≤(k:Int)∧(k:Int)<((l.length:Nat):Int)) (by omega)
   simp only[Gn.two_l1,hz,dec_lt hk,cond_true,c1,Option.bind_some,Int.toNat_natCast,hc k x hk,see_ok fu (hs x (List.mem_of_getElem? hk)),hw,PL.take_succ hk,List.foldl_append,List.foldl_cons,List.foldl_nil])
  (by simp only[Gn.two_l1,hz,dec_end',cond_false,List.take_length]) fu (by omega)
 exact this
theorem one_in {bd:Sspot→Sspot→Option Bool}(fu:Nat){L:List Sspot}{b1:Int}{b2:List Int}{b3:Int}{b4:List Int}{p:Int→Bool}{l1 m3 m4 v:Int}{d:MDat}{z:Nat}{l:List Int}
  (hz:([((Int.toNat m3),(Int.toNat m4))]:List (Nat×Nat)).getD ((Int.toNat l1)+v.toNat) (0,0)=(z,l.length)) (hc:∀(i:Nat) (x:Int),l[i]?=some x→mcell d.es z i=some x)
  (hs:Seen bd ⟨⟨b1,b2⟩,b3,b4⟩ p L l) (hl:l.length≤100000) (hf:100000<fu) (f:Int):
  loopF (Gn.one_l1 bd fu l1 m3 m4 d v) fu (0,f,L,b1,b2,b3,b4)=some (l.foldl (stepB p) f,L,b1,b2,b3,b4):=by
 have:=PL.loop_acc (body:=Gn.one_l1 bd fu l1 m3 m4 d v) l (fun k=>((k:Int),(l.take k).foldl (stepB p) f,L,b1,b2,b3,b4)) (l.foldl (stepB p) f,L,b1,b2,b3,b4)
  (fun k x hk=>by
   have hw:=wrap_succ (get_lt hk) (by omega)
   have hlt:=get_lt hk
   have c1:=chk_pos (p:=(0:Int)≤(k:Int)∧(k:Int)<((l.length:Nat):Int)) (by omega)
   simp only[Gn.one_l1,hz,dec_lt hk,cond_true,c1,Option.bind_some,Int.toNat_natCast,hc k x hk,see_ok fu (hs x (List.mem_of_getElem? hk)),hw,PL.take_succ hk,List.foldl_append,List.foldl_cons,List.foldl_nil])
  (by simp only[Gn.one_l1,hz,dec_end',cond_false,List.take_length]) fu (by omega)
 exact this
theorem two_ok {bd:Sspot→Sspot→Option Bool}(fu:Nat){L:List Sspot}{b1:Int}{b2:List Int}{b3:Int}{b4:List Int}{p:Int→Bool}{d:MDat}{z z':Nat}{l l':List Int}
  (hc:∀(i:Nat) (x:Int),l[i]?=some x→mcell d.es z i=some x) (hc':∀(i:Nat) (x:Int),l'[i]?=some x→mcell d.es z' i=some x)
  (hs:Seen bd ⟨⟨b1,b2⟩,b3,b4⟩ p L l) (hs':Seen bd ⟨⟨b1,b2⟩,b3,b4⟩ p L l') (hl:l.length≤100000) (hl':l'.length≤100000) (hf:100000<fu) (f:Int):
  Gn.two bd fu ((0:Nat):Int) ((2:Nat):Int) ((z:Nat):Int) (((List.length l):Nat):Int) ((z':Nat):Int) (((List.length l'):Nat):Int) d f L b1 b2 b3 b4=some (d,(l++l').foldl (stepB p) f,L,b1,b2,b3,b4):=by
 obtain⟨g,hg⟩:∃g,fu=g+3:=⟨fu-3,by omega⟩
 have q1:=two_in (bd:=bd) fu (L:=L) (b1:=b1) (b2:=b2) (b3:=b3) (b4:=b4) (p:=p) (l1:=((0:Nat):Int)) (m3:=(z:Int)) (m4:=((List.length l:Nat):Int)) (m5:=(z':Int)) (m6:=((List.length l':Nat):Int)) (v:=0) (d:=d) (z:=z) (l:=l) (by simp) hc hs hl hf f
 have q2:=two_in (bd:=bd) fu (L:=L) (b1:=b1) (b2:=b2) (b3:=b3) (b4:=b4) (p:=p) (l1:=((0:Nat):Int)) (m3:=(z:Int)) (m4:=((List.length l:Nat):Int)) (m5:=(z':Int)) (m6:=((List.length l':Nat):Int)) (v:=1) (d:=d) (z:=z') (l:=l') (by simp) hc' hs' hl' hf (l.foldl (stepB p) f)
 have w0:IntKind.i64.wrap (0+1)=1:=i64 (by omega) (by omega)
 have w1:IntKind.i64.wrap (1+1)=2:=i64 (by omega) (by omega)
 have d0:decide ((0:Int)<((Int.toNat ((2:Nat):Int):Nat):Int))=true:=by decide
 have d1:decide ((1:Int)<((Int.toNat ((2:Nat):Int):Nat):Int))=true:=by decide
 have d2:decide ((2:Int)<((Int.toNat ((2:Nat):Int):Nat):Int))=false:=by decide
 have c0:chk ((0:Int)≤0∧(0:Int)<((Int.toNat ((2:Nat):Int):Nat):Int))=some ():=chk_pos (by decide)
 have c1:chk ((0:Int)≤1∧(1:Int)<((Int.toNat ((2:Nat):Int):Nat):Int))=some ():=chk_pos (by decide)
 have e0:∀x y:Nat×Nat,chk (Int.toNat ((0:Nat):Int)+Int.toNat 0<[x,y].length)=some ():=fun x y=>chk_pos (by show 0<2;decide)
 have e1:∀x y:Nat×Nat,chk (Int.toNat ((0:Nat):Int)+Int.toNat 1<[x,y].length)=some ():=fun x y=>chk_pos (by show 1<2;decide)
 have key:∀g,loopF (Gn.two_l2 bd fu ((0:Nat):Int) ((2:Nat):Int) ((z:Nat):Int) (((List.length l):Nat):Int) ((z':Nat):Int) (((List.length l'):Nat):Int) d) (g+3) (0,f,L,b1,b2,b3,b4)=some (l'.foldl (stepB p) (l.foldl (stepB p) f),L,b1,b2,b3,b4):=fun g=>by
  generalize hF:loopF (Gn.two_l1 bd fu ((0:Nat):Int) ((z:Nat):Int) (((List.length l):Nat):Int) ((z':Nat):Int) (((List.length l'):Nat):Int) d 0) fu=F0 at q1
  generalize hG:loopF (Gn.two_l1 bd fu ((0:Nat):Int) ((z:Nat):Int) (((List.length l):Nat):Int) ((z':Nat):Int) (((List.length l'):Nat):Int) d 1) fu=F1 at q2
  simp only[loopF,Gn.two_l2,d0,d1,d2,cond_true,cond_false,c0,c1,e0,e1,Option.bind_some,hF,hG,q1,q2,w0,w1]
 unfold Gn.two
 rw[List.foldl_append]
 have:=key g
 rw[←hg] at this
 rw[this];rfl
theorem one_ok {bd:Sspot→Sspot→Option Bool}(fu:Nat){L:List Sspot}{b1:Int}{b2:List Int}{b3:Int}{b4:List Int}{p:Int→Bool}{d:MDat}{z:Nat}{l:List Int}
  (hc:∀(i:Nat) (x:Int),l[i]?=some x→mcell d.es z i=some x)
  (hs:Seen bd ⟨⟨b1,b2⟩,b3,b4⟩ p L l) (hl:l.length≤100000) (hf:100000<fu) (f:Int):
  Gn.one bd fu ((0:Nat):Int) ((1:Nat):Int) ((z:Nat):Int) (((List.length l):Nat):Int) d f L b1 b2 b3 b4=some (d,l.foldl (stepB p) f,L,b1,b2,b3,b4):=by
 obtain⟨g,hg⟩:∃g,fu=g+3:=⟨fu-3,by omega⟩
 have q1:=one_in (bd:=bd) fu (L:=L) (b1:=b1) (b2:=b2) (b3:=b3) (b4:=b4) (p:=p) (l1:=((0:Nat):Int)) (m3:=(z:Int)) (m4:=((List.length l:Nat):Int)) (v:=0) (d:=d) (z:=z) (l:=l) (by simp) hc hs hl hf f
 have w0:IntKind.i64.wrap (0+1)=1:=i64 (by omega) (by omega)
 have d0:decide ((0:Int)<((Int.toNat ((1:Nat):Int):Nat):Int))=true:=by decide
 have d1:decide ((1:Int)<((Int.toNat ((1:Nat):Int):Nat):Int))=false:=by decide
 have c0:chk ((0:Int)≤0∧(0:Int)<((Int.toNat ((1:Nat):Int):Nat):Int))=some ():=chk_pos (by decide)
 have e0:∀x:Nat×Nat,chk (Int.toNat ((0:Nat):Int)+Int.toNat 0<[x].length)=some ():=fun x=>chk_pos (by show 0<1;decide)
 have key:∀g,loopF (Gn.one_l2 bd fu ((0:Nat):Int) ((1:Nat):Int) ((z:Nat):Int) (((List.length l):Nat):Int) d) (g+3) (0,f,L,b1,b2,b3,b4)=some (l.foldl (stepB p) f,L,b1,b2,b3,b4):=fun g=>by
  generalize hF:loopF (Gn.one_l1 bd fu ((0:Nat):Int) ((z:Nat):Int) (((List.length l):Nat):Int) d 0) fu=F0 at q1
  simp only[loopF,Gn.one_l2,d0,d1,cond_true,cond_false,c0,e0,Option.bind_some,hF,q1,w0]
 unfold Gn.one
 have:=key g
 rw[←hg] at this
 rw[this];rfl
end Go.DN.So
