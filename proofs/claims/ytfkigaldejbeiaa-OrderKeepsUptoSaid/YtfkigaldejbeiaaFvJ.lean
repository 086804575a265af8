/-
  Orders: the plain law of OrderRuns: the eQ of a statement, with their times.
-/
import Derived.Test.YtfkigaldejbeiaaFvI
import Derived.Test.YtfkigaldejbeiaaPlA
set_option linter.unusedSectionVars false
set_option linter.unusedSimpArgs false
set_option linter.unusedVariables false
namespace Go.DN.So
open Go.AM Go.DN
def qu (long:Nat) (l:List Int):List Int:=l++List.replicate (long-l.length) 0
def qf (rows:List aS) (x:List Int):List Int:=rows.map fun r=>ei r x
def sf (long:Nat) (times:List (List aS)) (q:bE):List Int:=qu long (qf (times.getD q.Stmt.toNat []) q.At)
def pr (s:ae):bE×List Int:=(s.aQ,s.time)
def pq (long:Nat) (times:List (List aS)) (q:bE):bE×List Int:=(q,sf long times q)
theorem Pu {l:List Int}{M k:Nat}{v:Int}(hk:k<M) (h:l[k]?=some v):(l.take k++List.replicate (M-k) 0).set k v=l.take (k+1)++List.replicate (M-(k+1)) 0:=by
 have hl:=eT h
 have h1:(l.take k).length=k:=by rw[aU];omega
 rw[List.set_append_right _ _ (by omega),h1,pf]
 obtain⟨r,hr⟩:∃r,M-k=r+1:=⟨M-k-1,by omega⟩
 rw[hr,nR,List.set_cons_zero,kw,h,show M-(k+1)=r by omega,aC]
 rfl
theorem JK (fu:Nat){p:bp}(g:Good p){x:List Int}(hx:kl x) (hl:x.length=p.ba.length){rows:List aS}(hr:∀r∈rows,fK r p.ba.length=0){long:Nat}(h1:rows.length≤long) (h2:long≤8) (hf:10<fu):
  aB (F.jc fu x rows) fu (0,List.replicate (Int.toNat (long:Int)) (0:Int))=some (qu long (qf rows x)):=by
 have hlen:(qf rows x).length=rows.length:=by simp[qf]
 have:=PL.AT (body:=F.jc fu x rows) rows (fun k=>((k:Int),(qf rows x).take k++List.replicate (long-k) 0)) (qu long (qf rows x))
  (fun k r hk=>by
   have hk2:=eT hk
   have hw:=du hk2 (by omega)
   have ha:=KT fu (g.with (hr r (ar hk))) (r:=r) (by simp) hx hl hf
   have ht:(qf rows x)[k]?=some (ei r x):=by simp[qf,hk]
   have hi:idx ((qf rows x).take k++List.replicate (long-k) 0) (k:Int)=some 0:=by
    refine bJ ?_
    have h1:((qf rows x).take k).length=k:=by rw[aU];omega
    rw[cS (by omega),h1,pf,fQ,if_pos (by omega)]
   simp only[F.jc,dec_lt hk,cond_true,bJ hk,ab,ha,hi,hw,bh,Pu (show k<long by omega) ht])
  (by
   simp only[F.jc,ff,cond_false]
   rw[←hlen,nm];rfl) fu (by omega)
 rw[bh]
 simpa using this
def H7 (o:List ae):Prop:=∀(i:Nat) (s:ae),o[i]?=some s→s.number=(i:Int)
theorem Bi {o:List ae}(h:o.length<1024) (hn:H7 o) (a:bE) (t:List Int):(o++[(⟨a,(o.length:Int),t⟩:ae)]).length≤1024∧H7 (o++[(⟨a,(o.length:Int),t⟩:ae)]):=by
 refine⟨by rw[aj,cQ];omega,fun i s hi=>?_⟩
 rw[a8] at hi
 split at hi
 ·exact hn i s hi
 ·rename_i hlt
  have h0:i-o.length=0:=by
   have:=(al.1 hi).1
   simp at this
   omega
  rw[h0] at hi
  cases hi
  show(o.length:Int)=(i:Int)
  omega
abbrev xB:={o:List ae // o.length≤1024∧H7 o}
def yS (long i:Nat) (rows:List aS) (x:List Int) (o:xB):xB×Jp:=
 if h:o.1.length<1024 then(⟨o.1++[⟨⟨(i:Int),x⟩,(o.1.length:Int),qu long (qf rows x)⟩],Bi h o.2.2 _ _⟩,.go) else(o,.rt)
theorem Ro (fu:Nat){p:bp}(g:Good p){x:List Int}(hx:kl x) (hl:x.length=p.ba.length){times:List (List aS)}{rows:List aS}{i:Nat}(hi:times[i]?=some rows) (hr:∀r∈rows,fK r p.ba.length=0){long:Nat}(h1:rows.length≤long) (h2:long≤8) (hf:10<fu) (o:xB):
  F.mz fu x times 0 (long:Int) (i:Int) [] o.1=some (if (yS long i rows x o).2=.go then(0,times,0,(long:Int),(i:Int),[],(yS long i rows x o).1.1) else(2,times,5,(long:Int),(i:Int),[],(yS long i rows x o).1.1)):=by
 unfold F.mz yS
 have ho:=o.2.1
 by_cases h:o.1.length<1024
 ·have e:((o.1.length:Int)==1024)=false:=by simp;omega
  have c1:=bK (p:=(0:Int)≤(long:Int)∧(long:Int)≤(long:Int)∧((8:Nat):Int)*(long:Int)≤281474976710656∧(long:Int)≤9223372036854775807) (by omega)
  have c2:=bK (p:=o.1.length+[(⟨(⟨(i:Int),x⟩:bE),(o.1.length:Int),qu long (qf rows x)⟩:ae)].length≤maxLen∧(o.1.length+[(⟨(⟨(i:Int),x⟩:bE),(o.1.length:Int),qu long (qf rows x)⟩:ae)].length)*64≤140737488355328) (by simp only[cQ,maxLen];omega)
  rw[dif_pos h]
  simp only[e,cond_false,c1,ab,bJ hi,JK fu g hx hl hr h1 h2 hf,c2,if_true]
 ·have e:((o.1.length:Int)==1024)=true:=by simp;omega
  rw[dif_neg h]
  simp only[e,cond_true]
  rfl
theorem Qu (long i:Nat) (rows:List aS):∀(l:List (List Int)) (o:xB),(o.1.length+l.length≤1024→(dE (yS long i rows) l o).2=.go∧(dE (yS long i rows) l o).1.1.map pr=o.1.map pr++l.map fun x=>((⟨(i:Int),x⟩:bE),qu long (qf rows x)))∧
  (1024<o.1.length+l.length→(dE (yS long i rows) l o).2≠.go)
 | [],o=>⟨fun h=>⟨rfl,by simp[dE]⟩,fun h=>by have:=o.2.1;simp at h;omega⟩
 | x::l,o=>by
  by_cases h:o.1.length<1024
  ·have e:yS long i rows x o=(⟨o.1++[⟨⟨(i:Int),x⟩,(o.1.length:Int),qu long (qf rows x)⟩],Bi h o.2.2 _ _⟩,.go):=by unfold yS;rw[dif_pos h]
   obtain⟨h1,h2⟩:=Qu long i rows l ⟨o.1++[⟨⟨(i:Int),x⟩,(o.1.length:Int),qu long (qf rows x)⟩],Bi h o.2.2 _ _⟩
   simp only[dE,e,if_true]
   simp only[aj,cQ] at h1 h2
   refine⟨fun g=>?_,fun g=>h2 (by simp at g;omega)⟩
   obtain⟨a,b⟩:=h1 (by simp at g;omega)
   exact⟨a,by rw[b];simp[pr]⟩
  ·have e:yS long i rows x o=(o,.rt):=by unfold yS;rw[dif_neg h]
   refine⟨fun g=>by simp at g;omega,fun _=>?_⟩
   simp only[dE,e]
   rw[if_neg (by decide)]
   show Jp.rt≠Jp.go
   decide
theorem M0 {p:bp}(g:Good p){times:List (List aS)}{rows:List aS}{i:Nat}(hi:times[i]?=some rows) (hrw:∀r∈rows,fK r p.ba.length=0){long:Nat}(h1:rows.length≤long) (h2:long≤8):∀(fu k:Nat) (x:List Int) (m:xB),k≤p.ba.length→x.length=p.ba.length→kl x→5000+(p.ba.length-k)<fu→
  ∃x':List Int,x'.length=p.ba.length∧kl x'∧x'.take k=x.take k∧F.gQ fu p (k:Int) x 0 times 0 (long:Int) (i:Int) [] m.1=
   some (if (dE (yS long i rows) ((ext (p.ba.drop k) (x.take k)).filter (sat p)) m).2=.go then(true,x',0,times,0,(long:Int),(i:Int),[],(dE (yS long i rows) ((ext (p.ba.drop k) (x.take k)).filter (sat p)) m).1.1)
    else(false,x',2,times,5,(long:Int),(i:Int),[],(dE (yS long i rows) ((ext (p.ba.drop k) (x.take k)).filter (sat p)) m).1.1)):=by
 have h4:=g.len
 intro fu
 induction fu with
 | zero=>intro k x m _ _ _ h;omega
 | succ fu ih=>
  intro k x m hk hl hr hf
  show ∃x':List Int,x'.length=p.ba.length∧kl x'∧x'.take k=x.take k∧F.kE (F.gQ fu) (fu+1) p (k:Int) x 0 times 0 (long:Int) (i:Int) [] m.1=_
  unfold F.kE
  rw[Aa (fu+1) g hr hl k (by omega),ab]
  rcases fG (p.Rows.any fun r=>decide (oE r p x k<0)) with h | h
  ·rw[h,cond_true,Hl g hr hl hk h]
   exact⟨x,hl,hr,rfl,rfl⟩
  ·rw[h,cond_false]
   by_cases hkl:k=p.ba.length
   ·subst hkl
    have hs:sat p x=true:=by
     have:=Hm g hl
     rw[h] at this
     simpa using this.symm
    have e1:((p.ba.length:Int)==(p.ba.length:Int))=true:=by simp
    have hy:=Ro (fu+1) g hr hl hi hrw h1 h2 (by omega) m
    rw[e1,cond_true,EG (fu+1) x (by omega),ab,bK rfl,ab,hy,ab]
    refine⟨x,hl,hr,rfl,?_⟩
    rw[np,b6 (Nat.le_of_eq hl)]
    simp only[ext,List.filter_cons,hs,if_true,List.filter_nil,dE]
    by_cases hgo:(yS long i rows x m).2=.go
    ·simp only[hgo,if_true];rfl
    ·simp only[hgo,if_false];rfl
   ·have hkl:k<p.ba.length:=by omega
    have e1:((k:Int)==(p.ba.length:Int))=false:=by simp;omega
    have hbx:=g.box _ (lN hkl)
    have htk:(x.take k).length=k:=by rw[aU];omega
    have ek:IntKind.i64.wrap ((k:Int)+1)=((k+1:Nat):Int):=by rw[i64 (by omega) (by omega)];omega
    rw[e1,cond_false,bJ (fp (l:=x) (i:=k) (by omega)),ab,bh]
    have hloop:=DR (body:=F.lH (F.gQ fu) (fu+1) p (k:Int)) (fun x (m:xB)=>(x,0,times,0,(long:Int),(i:Int),[],m.1)) (fun x m=>Ex.dS (x,0,times,0,(long:Int),(i:Int),[],m.1)) (fun x m j=>Ex.ret (false,x,2,times,5,(long:Int),(i:Int),[],m.1)) (yS long i rows) p.ba.length (p.ba.getD k 0).toNat k
     (fun i=>(ext (p.ba.drop (k+1)) (x.take k++[(i:Int)])).filter (sat p)) (x.take k) hkl (by omega)
     (fun j y m hi hyl hyr hyt hyi=>by
      obtain⟨x1,a1,a2,a3,a4⟩:=ih (k+1) y m (by omega) hyl hyr (by omega)
      have ht:y.take (k+1)=x.take k++[(j:Int)]:=by
       rw[kw,hyt,fp (l:=y) (i:=k) (by omega),hyi];rfl
      have h1k:x1.getD k 0=(j:Int):=by
       rw[←uE (l:=x1) (jQ k),a3,uE (jQ k),hyi]
      refine⟨x1,a1,a2,?_,?_⟩
      ·have:x1.take k=(x1.take (k+1)).take k:=by rw[List.take_take,dt (by omega)]
       rw[this,a3,ht,List.take_append_of_le_length (by omega),b6 (by omega)]
      ·rw[ht] at a4
       have hd:decide ((j:Int)<p.ba.getD k 0)=true:=by simp only[decide_eq_true_eq];omega
       have hw:IntKind.i64.wrap ((j:Int)+1)=((j+1:Nat):Int):=by rw[i64 (by omega) (by omega)];omega
       have cl:Nat.beq (List.length x1) (List.length y)=true:=by rw[a1,hyl];exact aG _
       simp only[F.lH,bJ (fp (l:=y) (i:=k) (by omega)),hyi,bJ (fp (l:=p.ba) (i:=k) hkl),ab,hd,cond_true,ek,a4]
       by_cases hgo:(dE (yS long i rows) ((ext (p.ba.drop (k+1)) (x.take k++[(j:Int)])).filter (sat p)) m).2=.go
       ·simp only[hgo,if_true,cl,cond_true,jL,cond_false,bJ (fp (l:=x1) (i:=k) (by omega)),h1k,hw,bh,ab]
       ·simp only[hgo,if_false,cl,cond_true,iw])
     (fun y m hyl hyi=>by
      have hd:decide (((p.ba.getD k 0).toNat:Int)<p.ba.getD k 0)=false:=by simp only[decide_eq_false_iff_not];omega
      simp only[F.lH,bJ (fp (l:=y) (i:=k) (by omega)),hyi,bJ (fp (l:=p.ba) (i:=k) hkl),ab,hd,cond_false])
     (fu+1) (x.set k 0) m (by rw[de];exact hl) (fun z hz=>by
      rcases km hz with h | h
      ·exact hr z h
      ·subst h;omega)
     (by rw[List.take_set,List.set_eq_of_length_le (by omega)])
     (by rw[aL,cD (by omega)];rfl) (by omega)
    obtain⟨x',b1,b2,b3,b4⟩:=hloop
    refine⟨x',b1,b2,b3,?_⟩
    have hdr:p.ba.drop k=p.ba.getD k 0::p.ba.drop (k+1):=by
     rw[bV hkl,aL,ag hkl];rfl
    rw[hdr,uJ]
    try dsimp only at b4
    rw[b4]
    generalize dE (yS long i rows) _ m=R
    by_cases hgo:R.2=.go
    ·simp only[hgo,if_true];rfl
    ·simp only[hgo,if_false];rfl
theorem Qg (fu:Nat){p:bp}(g:Good p){times:List (List aS)}{rows:List aS}{i:Nat}(hi:times[i]?=some rows) (hrw:∀r∈rows,fK r p.ba.length=0){long:Nat}(h1:rows.length≤long) (h2:long≤8) (hp:mI p=0) (m:xB) (hf:5010<fu):
  F.jW fu 0 p.ba p.Rows times 0 (long:Int) (i:Int) [] m.1=some (if (dE (yS long i rows) (qh p) m).2=.go then(0,p.ba,p.Rows,times,0,(long:Int),(i:Int),[],(dE (yS long i rows) (qh p) m).1.1)
   else(2,p.ba,p.Rows,times,5,(long:Int),(i:Int),[],(dE (yS long i rows) (qh p) m).1.1)):=by
 have h4:=g.len
 have c:=bK (p:=(0:Int)≤(p.ba.length:Int)∧(p.ba.length:Int)≤(p.ba.length:Int)∧((8:Nat):Int)*(p.ba.length:Int)≤281474976710656∧(p.ba.length:Int)≤9223372036854775807) (by omega)
 obtain⟨x',w1,w2,w3,w4⟩:=M0 g hi hrw h1 h2 fu 0 (List.replicate p.ba.length 0) m (gY _) (by simp) (fun y hy=>by rw[gK hy];omega) (by omega)
 rw[eD,List.take_zero] at w4
 have w4:F.gQ fu p 0 (List.replicate p.ba.length 0) 0 times 0 (long:Int) (i:Int) [] m.1=some (if (dE (yS long i rows) (qh p) m).2=.go then _ else _):=w4
 have e0:((0:Int)==0)=true:=rfl
 have cl:Nat.beq (List.length x') (List.length (List.replicate p.ba.length (0:Int)))=true:=by rw[w1,gH];exact aG _
 unfold F.jW
 rw[show(⟨p.ba,p.Rows⟩:bp)=p from rfl,Ar fu p (by omega),hp]
 simp only[ab,e0,cond_true,c,bh,w4]
 by_cases hgo:(dE (yS long i rows) (qh p) m).2=.go
 ·simp only[hgo,if_true,cl,cond_true,ab];rfl
 ·simp only[hgo,if_false,cl,cond_true,ab];rfl
end Go.DN.So
