/-
  Orders: the plain law of OrderRuns: the spots of a statement, with their times.
-/
import Derived.Test.YtfkigaldejbeiaaFvH
import Derived.Test.YtfkigaldejbeiaaPlA
set_option linter.unusedSectionVars false
set_option linter.unusedSimpArgs false
set_option linter.unusedVariables false
namespace Go.DN.So
open Go.AM Go.DN
def padT (long:Nat) (l:List Int):List Int:=l++List.replicate (long-l.length) 0
def tmV (rows:List SRow) (x:List Int):List Int:=rows.map fun r=>atV r x
def tmS (long:Nat) (times:List (List SRow)) (q:SSpot):List Int:=padT long (tmV (times.getD q.Stmt.toNat []) q.At)
def pr (s:Sspot):SSpot×List Int:=(s.Spot,s.time)
def pq (long:Nat) (times:List (List SRow)) (q:SSpot):SSpot×List Int:=(q,tmS long times q)
theorem pad_set {l:List Int}{M k:Nat}{v:Int}(hk:k<M) (h:l[k]?=some v):(l.take k++List.replicate (M-k) 0).set k v=l.take (k+1)++List.replicate (M-(k+1)) 0:=by
 have hl:=get_lt h
 have h1:(l.take k).length=k:=by rw[List.length_take];omega
 rw[List.set_append_right _ _ (by omega),h1,Nat.sub_self]
 obtain⟨r,hr⟩:∃r,M-k=r+1:=⟨M-k-1,by omega⟩
 rw[hr,List.replicate_succ,List.set_cons_zero,List.take_add_one,h,show M-(k+1)=r by omega,List.append_assoc]
 rfl
theorem spotT_loop (fu:Nat){p:SPoints}(g:Good p){x:List Int}(hx:Ran x) (hl:x.length=p.Box.length){rows:List SRow}(hr:∀r∈rows,rowW r p.Box.length=0){long:Nat}(h1:rows.length≤long) (h2:long≤8) (hf:10<fu):
  loopF (F.order_spots_y_3_l1 fu x rows) fu (0,List.replicate (Int.toNat (long:Int)) (0:Int))=some (padT long (tmV rows x)):=by
 have hlen:(tmV rows x).length=rows.length:=by simp[tmV]
 have:=PL.loop_acc (body:=F.order_spots_y_3_l1 fu x rows) rows (fun k=>((k:Int),(tmV rows x).take k++List.replicate (long-k) 0)) (padT long (tmV rows x))
  (fun k r hk=>by
   have hk2:=get_lt hk
   have hw:=wrap_succ hk2 (by omega)
   have ha:=at_ok fu (g.with (hr r (List.mem_of_getElem? hk))) (r:=r) (by simp) hx hl hf
   have ht:(tmV rows x)[k]?=some (atV r x):=by simp[tmV,hk]
   have hi:idx ((tmV rows x).take k++List.replicate (long-k) 0) (k:Int)=some 0:=by
    refine idx_nat ?_
    have h1:((tmV rows x).take k).length=k:=by rw[List.length_take];omega
    rw[List.getElem?_append_right (by omega),h1,Nat.sub_self,List.getElem?_replicate,if_pos (by omega)]
   simp only[F.order_spots_y_3_l1,dec_lt hk,cond_true,idx_nat hk,Option.bind_some,ha,hi,hw,Int.toNat_natCast,pad_set (show k<long by omega) ht])
  (by
   simp only[F.order_spots_y_3_l1,dec_end,cond_false]
   rw[←hlen,List.take_length];rfl) fu (by omega)
 rw[Int.toNat_natCast]
 simpa using this
def Num (o:List Sspot):Prop:=∀(i:Nat) (s:Sspot),o[i]?=some s→s.number=(i:Int)
theorem box_snoc {o:List Sspot}(h:o.length<1024) (hn:Num o) (a:SSpot) (t:List Int):(o++[(⟨a,(o.length:Int),t⟩:Sspot)]).length≤1024∧Num (o++[(⟨a,(o.length:Int),t⟩:Sspot)]):=by
 refine⟨by rw[List.length_append,List.length_singleton];omega,fun i s hi=>?_⟩
 rw[List.getElem?_append] at hi
 split at hi
 ·exact hn i s hi
 ·rename_i hlt
  have h0:i-o.length=0:=by
   have:=(List.getElem?_eq_some_iff.1 hi).1
   simp at this
   omega
  rw[h0] at hi
  cases hi
  show(o.length:Int)=(i:Int)
  omega
abbrev Box1:={o:List Sspot // o.length≤1024∧Num o}
def yS (long i:Nat) (rows:List SRow) (x:List Int) (o:Box1):Box1×Jp:=
 if h:o.1.length<1024 then(⟨o.1++[⟨⟨(i:Int),x⟩,(o.1.length:Int),padT long (tmV rows x)⟩],box_snoc h o.2.2 _ _⟩,.go) else(o,.rt)
theorem yS_ok (fu:Nat){p:SPoints}(g:Good p){x:List Int}(hx:Ran x) (hl:x.length=p.Box.length){times:List (List SRow)}{rows:List SRow}{i:Nat}(hi:times[i]?=some rows) (hr:∀r∈rows,rowW r p.Box.length=0){long:Nat}(h1:rows.length≤long) (h2:long≤8) (hf:10<fu) (o:Box1):
  F.order_spots_y_3 fu x times 0 (long:Int) (i:Int) [] o.1=some (if (yS long i rows x o).2=.go then(0,times,0,(long:Int),(i:Int),[],(yS long i rows x o).1.1) else(2,times,5,(long:Int),(i:Int),[],(yS long i rows x o).1.1)):=by
 unfold F.order_spots_y_3 yS
 have ho:=o.2.1
 by_cases h:o.1.length<1024
 ·have e:((o.1.length:Int)==1024)=false:=by simp;omega
  have c1:=chk_pos (p:=(0:Int)≤(long:Int)∧(long:Int)≤(long:Int)∧((8:Nat):Int)*(long:Int)≤281474976710656∧(long:Int)≤9223372036854775807) (by omega)
  have c2:=chk_pos (p:=o.1.length+[(⟨(⟨(i:Int),x⟩:SSpot),(o.1.length:Int),padT long (tmV rows x)⟩:Sspot)].length≤maxLen∧(o.1.length+[(⟨(⟨(i:Int),x⟩:SSpot),(o.1.length:Int),padT long (tmV rows x)⟩:Sspot)].length)*64≤140737488355328) (by simp only[List.length_singleton,maxLen];omega)
  rw[dif_pos h]
  simp only[e,cond_false,c1,Option.bind_some,idx_nat hi,spotT_loop fu g hx hl hr h1 h2 hf,c2,if_true]
 ·have e:((o.1.length:Int)==1024)=true:=by simp;omega
  rw[dif_neg h]
  simp only[e,cond_true]
  rfl
theorem runS (long i:Nat) (rows:List SRow):∀(l:List (List Int)) (o:Box1),(o.1.length+l.length≤1024→(runY (yS long i rows) l o).2=.go∧(runY (yS long i rows) l o).1.1.map pr=o.1.map pr++l.map fun x=>((⟨(i:Int),x⟩:SSpot),padT long (tmV rows x)))∧
  (1024<o.1.length+l.length→(runY (yS long i rows) l o).2≠.go)
 | [],o=>⟨fun h=>⟨rfl,by simp[runY]⟩,fun h=>by have:=o.2.1;simp at h;omega⟩
 | x::l,o=>by
  by_cases h:o.1.length<1024
  ·have e:yS long i rows x o=(⟨o.1++[⟨⟨(i:Int),x⟩,(o.1.length:Int),padT long (tmV rows x)⟩],box_snoc h o.2.2 _ _⟩,.go):=by unfold yS;rw[dif_pos h]
   obtain⟨h1,h2⟩:=runS long i rows l ⟨o.1++[⟨⟨(i:Int),x⟩,(o.1.length:Int),padT long (tmV rows x)⟩],box_snoc h o.2.2 _ _⟩
   simp only[runY,e,if_true]
   simp only[List.length_append,List.length_singleton] at h1 h2
   refine⟨fun g=>?_,fun g=>h2 (by simp at g;omega)⟩
   obtain⟨a,b⟩:=h1 (by simp at g;omega)
   exact⟨a,by rw[b];simp[pr]⟩
  ·have e:yS long i rows x o=(o,.rt):=by unfold yS;rw[dif_neg h]
   refine⟨fun g=>by simp at g;omega,fun _=>?_⟩
   simp only[runY,e]
   rw[if_neg (by decide)]
   show Jp.rt≠Jp.go
   decide
theorem walkS_ok {p:SPoints}(g:Good p){times:List (List SRow)}{rows:List SRow}{i:Nat}(hi:times[i]?=some rows) (hrw:∀r∈rows,rowW r p.Box.length=0){long:Nat}(h1:rows.length≤long) (h2:long≤8):∀(fu k:Nat) (x:List Int) (m:Box1),k≤p.Box.length→x.length=p.Box.length→Ran x→5000+(p.Box.length-k)<fu→
  ∃x':List Int,x'.length=p.Box.length∧Ran x'∧x'.take k=x.take k∧F.points_walk_4 fu p (k:Int) x 0 times 0 (long:Int) (i:Int) [] m.1=
   some (if (runY (yS long i rows) ((ext (p.Box.drop k) (x.take k)).filter (sat p)) m).2=.go then(true,x',0,times,0,(long:Int),(i:Int),[],(runY (yS long i rows) ((ext (p.Box.drop k) (x.take k)).filter (sat p)) m).1.1)
    else(false,x',2,times,5,(long:Int),(i:Int),[],(runY (yS long i rows) ((ext (p.Box.drop k) (x.take k)).filter (sat p)) m).1.1)):=by
 have h4:=g.len
 intro fu
 induction fu with
 | zero=>intro k x m _ _ _ h;omega
 | succ fu ih=>
  intro k x m hk hl hr hf
  show ∃x':List Int,x'.length=p.Box.length∧Ran x'∧x'.take k=x.take k∧F.points_walk_4_b (F.points_walk_4 fu) (fu+1) p (k:Int) x 0 times 0 (long:Int) (i:Int) [] m.1=_
  unfold F.points_walk_4_b
  rw[hopeless_ok (fu+1) g hr hl k (by omega),Option.bind_some]
  rcases Bool.eq_false_or_eq_true (p.Rows.any fun r=>decide (hopV r p x k<0)) with h | h
  ·rw[h,cond_true,hop_none g hr hl hk h]
   exact⟨x,hl,hr,rfl,rfl⟩
  ·rw[h,cond_false]
   by_cases hkl:k=p.Box.length
   ·subst hkl
    have hs:sat p x=true:=by
     have:=hop_leaf g hl
     rw[h] at this
     simpa using this.symm
    have e1:((p.Box.length:Int)==(p.Box.length:Int))=true:=by simp
    have hy:=yS_ok (fu+1) g hr hl hi hrw h1 h2 (by omega) m
    rw[e1,cond_true,clone2_ok (fu+1) x (by omega),Option.bind_some,chk_pos rfl,Option.bind_some,hy,Option.bind_some]
    refine⟨x,hl,hr,rfl,?_⟩
    rw[List.drop_length,List.take_of_length_le (Nat.le_of_eq hl)]
    simp only[ext,List.filter_cons,hs,if_true,List.filter_nil,runY]
    by_cases hgo:(yS long i rows x m).2=.go
    ·simp only[hgo,if_true];rfl
    ·simp only[hgo,if_false];rfl
   ·have hkl:k<p.Box.length:=by omega
    have e1:((k:Int)==(p.Box.length:Int))=false:=by simp;omega
    have hbx:=g.box _ (getD_mem hkl)
    have htk:(x.take k).length=k:=by rw[List.length_take];omega
    have ek:IntKind.i64.wrap ((k:Int)+1)=((k+1:Nat):Int):=by rw[i64 (by omega) (by omega)];omega
    rw[e1,cond_false,idx_nat (getD_of (l:=x) (i:=k) (by omega)),Option.bind_some,Int.toNat_natCast]
    have hloop:=walk_loop (body:=F.points_walk_4_l1 (F.points_walk_4 fu) (fu+1) p (k:Int)) (fun x (m:Box1)=>(x,0,times,0,(long:Int),(i:Int),[],m.1)) (fun x m=>Ex.brk (x,0,times,0,(long:Int),(i:Int),[],m.1)) (fun x m j=>Ex.ret (false,x,2,times,5,(long:Int),(i:Int),[],m.1)) (yS long i rows) p.Box.length (p.Box.getD k 0).toNat k
     (fun i=>(ext (p.Box.drop (k+1)) (x.take k++[(i:Int)])).filter (sat p)) (x.take k) hkl (by omega)
     (fun j y m hi hyl hyr hyt hyi=>by
      obtain⟨x1,a1,a2,a3,a4⟩:=ih (k+1) y m (by omega) hyl hyr (by omega)
      have ht:y.take (k+1)=x.take k++[(j:Int)]:=by
       rw[List.take_add_one,hyt,getD_of (l:=y) (i:=k) (by omega),hyi];rfl
      have h1k:x1.getD k 0=(j:Int):=by
       rw[←getD_take (l:=x1) (Nat.lt_succ_self k),a3,getD_take (Nat.lt_succ_self k),hyi]
      refine⟨x1,a1,a2,?_,?_⟩
      ·have:x1.take k=(x1.take (k+1)).take k:=by rw[List.take_take,Nat.min_eq_left (by omega)]
       rw[this,a3,ht,List.take_append_of_le_length (by omega),List.take_of_length_le (by omega)]
      ·rw[ht] at a4
       have hd:decide ((j:Int)<p.Box.getD k 0)=true:=by simp only[decide_eq_true_eq];omega
       have hw:IntKind.i64.wrap ((j:Int)+1)=((j+1:Nat):Int):=by rw[i64 (by omega) (by omega)];omega
       have cl:Nat.beq (List.length x1) (List.length y)=true:=by rw[a1,hyl];exact Nat.beq_refl _
       simp only[F.points_walk_4_l1,idx_nat (getD_of (l:=y) (i:=k) (by omega)),hyi,idx_nat (getD_of (l:=p.Box) (i:=k) hkl),Option.bind_some,hd,cond_true,ek,a4]
       by_cases hgo:(runY (yS long i rows) ((ext (p.Box.drop (k+1)) (x.take k++[(j:Int)])).filter (sat p)) m).2=.go
       ·simp only[hgo,if_true,cl,cond_true,Bool.not_true,cond_false,idx_nat (getD_of (l:=x1) (i:=k) (by omega)),h1k,hw,Int.toNat_natCast,Option.bind_some]
       ·simp only[hgo,if_false,cl,cond_true,Bool.not_false])
     (fun y m hyl hyi=>by
      have hd:decide (((p.Box.getD k 0).toNat:Int)<p.Box.getD k 0)=false:=by simp only[decide_eq_false_iff_not];omega
      simp only[F.points_walk_4_l1,idx_nat (getD_of (l:=y) (i:=k) (by omega)),hyi,idx_nat (getD_of (l:=p.Box) (i:=k) hkl),Option.bind_some,hd,cond_false])
     (fu+1) (x.set k 0) m (by rw[List.length_set];exact hl) (fun z hz=>by
      rcases List.mem_or_eq_of_mem_set hz with h | h
      ·exact hr z h
      ·subst h;omega)
     (by rw[List.take_set,List.set_eq_of_length_le (by omega)])
     (by rw[List.getD_eq_getElem?_getD,List.getElem?_set_self (by omega)];rfl) (by omega)
    obtain⟨x',b1,b2,b3,b4⟩:=hloop
    refine⟨x',b1,b2,b3,?_⟩
    have hdr:p.Box.drop k=p.Box.getD k 0::p.Box.drop (k+1):=by
     rw[List.drop_eq_getElem_cons hkl,List.getD_eq_getElem?_getD,List.getElem?_eq_getElem hkl];rfl
    rw[hdr,filter_ext_cons]
    try dsimp only at b4
    rw[b4]
    generalize runY (yS long i rows) _ m=R
    by_cases hgo:R.2=.go
    ·simp only[hgo,if_true];rfl
    ·simp only[hgo,if_false];rfl
theorem allS_ok (fu:Nat){p:SPoints}(g:Good p){times:List (List SRow)}{rows:List SRow}{i:Nat}(hi:times[i]?=some rows) (hrw:∀r∈rows,rowW r p.Box.length=0){long:Nat}(h1:rows.length≤long) (h2:long≤8) (hp:wrongP p=0) (m:Box1) (hf:5010<fu):
  F.points_All_1 fu 0 p.Box p.Rows times 0 (long:Int) (i:Int) [] m.1=some (if (runY (yS long i rows) (pts p) m).2=.go then(0,p.Box,p.Rows,times,0,(long:Int),(i:Int),[],(runY (yS long i rows) (pts p) m).1.1)
   else(2,p.Box,p.Rows,times,5,(long:Int),(i:Int),[],(runY (yS long i rows) (pts p) m).1.1)):=by
 have h4:=g.len
 have c:=chk_pos (p:=(0:Int)≤(p.Box.length:Int)∧(p.Box.length:Int)≤(p.Box.length:Int)∧((8:Nat):Int)*(p.Box.length:Int)≤281474976710656∧(p.Box.length:Int)≤9223372036854775807) (by omega)
 obtain⟨x',w1,w2,w3,w4⟩:=walkS_ok g hi hrw h1 h2 fu 0 (List.replicate p.Box.length 0) m (Nat.zero_le _) (by simp) (fun y hy=>by rw[List.eq_of_mem_replicate hy];omega) (by omega)
 rw[List.drop_zero,List.take_zero] at w4
 have w4:F.points_walk_4 fu p 0 (List.replicate p.Box.length 0) 0 times 0 (long:Int) (i:Int) [] m.1=some (if (runY (yS long i rows) (pts p) m).2=.go then _ else _):=w4
 have e0:((0:Int)==0)=true:=rfl
 have cl:Nat.beq (List.length x') (List.length (List.replicate p.Box.length (0:Int)))=true:=by rw[w1,List.length_replicate];exact Nat.beq_refl _
 unfold F.points_All_1
 rw[show(⟨p.Box,p.Rows⟩:SPoints)=p from rfl,wrong_ok fu p (by omega),hp]
 simp only[Option.bind_some,e0,cond_true,c,Int.toNat_natCast,w4]
 by_cases hgo:(runY (yS long i rows) (pts p) m).2=.go
 ·simp only[hgo,if_true,cl,cond_true,Option.bind_some];rfl
 ·simp only[hgo,if_false,cl,cond_true,Option.bind_some];rfl
end Go.DN.So
