/-
  Orders: the plain law of OrderRuns: the eJ of a statement, with their times.
-/
import Derived.Test.YtfkigaldejbeiaaFvI
import Derived.Test.YtfkigaldejbeiaaPlA
set_option linter.unusedSectionVars false
set_option linter.unusedSimpArgs false
set_option linter.unusedVariables false
namespace Go.DN.So
open Go.AM Go.DN
def qD (long:Nat) (l:List Int):List Int:=l++List.replicate (long-l.length) 0
def qo (rows:List aT) (x:List Int):List Int:=rows.map fun r=>ei r x
def sx (long:Nat) (times:List (List aT)) (q:bD):List Int:=qD long (qo (times.getD q.Stmt.toNat []) q.At)
def pr (s:af):bD×List Int:=(s.aR,s.time)
def pq (long:Nat) (times:List (List aT)) (q:bD):bD×List Int:=(q,sx long times q)
theorem PT {l:List Int}{M k:Nat}{v:Int}(hk:k<M) (h:l[k]?=some v):(l.take k++List.replicate (M-k) 0).set k v=l.take (k+1)++List.replicate (M-(k+1)) 0:=by
 have hl:=eU h
 have h1:(l.take k).length=k:=by rw[aV];omega
 rw[List.set_append_right _ _ (by omega),h1,pw]
 obtain⟨r,hr⟩:∃r,M-k=r+1:=⟨M-k-1,by omega⟩
 rw[hr,nW,List.set_cons_zero,kz,h,show M-(k+1)=r by omega,aC]
 rfl
theorem Kk (fu:Nat){p:bp}(g:Good p){x:List Int}(hx:kn x) (hl:x.length=p.ba.length){rows:List aT}(hr:∀r∈rows,fL r p.ba.length=0){long:Nat}(h1:rows.length≤long) (h2:long≤8) (hf:10<fu):
  aB (F.jf fu x rows) fu (0,List.replicate (Int.toNat (long:Int)) (0:Int))=some (qD long (qo rows x)):=by
 have hlen:(qo rows x).length=rows.length:=by simp[qo]
 have:=PL.Bd (body:=F.jf fu x rows) rows (fun k=>((k:Int),(qo rows x).take k++List.replicate (long-k) 0)) (qD long (qo rows x))
  (fun k r hk=>by
   have hk2:=eU hk
   have hw:=du hk2 (by omega)
   have ha:=Ll fu (g.with (hr r (ar hk))) (r:=r) (by simp) hx hl hf
   have ht:(qo rows x)[k]?=some (ei r x):=by simp[qo,hk]
   have hi:idx ((qo rows x).take k++List.replicate (long-k) 0) (k:Int)=some 0:=by
    refine bJ ?_
    have h1:((qo rows x).take k).length=k:=by rw[aV];omega
    rw[cS (by omega),h1,pw,fS,if_pos (by omega)]
   simp only[F.jf,dec_lt hk,cond_true,bJ hk,ae,ha,hi,hw,bh,PT (show k<long by omega) ht])
  (by
   simp only[F.jf,fg,cond_false]
   rw[←hlen,nu];rfl) fu (by omega)
 rw[bh]
 simpa using this
def IE (o:List af):Prop:=∀(i:Nat) (s:af),o[i]?=some s→s.number=(i:Int)
theorem BK {o:List af}(h:o.length<1024) (hn:IE o) (a:bD) (t:List Int):(o++[(⟨a,(o.length:Int),t⟩:af)]).length≤1024∧IE (o++[(⟨a,(o.length:Int),t⟩:af)]):=by
 refine⟨by rw[ak,cQ];omega,fun i s hi=>?_⟩
 rw[a8] at hi
 split at hi
 ·exact hn i s hi
 ·rename_i hlt
  have h0:i-o.length=0:=by
   have:=(al.1 hi).1
   simp at this
   omega
  rw[h0] at hi
  cases hi
  show(o.length:Int)=(i:Int)
  omega
abbrev xR:={o:List af // o.length≤1024∧IE o}
def yS (long i:Nat) (rows:List aT) (x:List Int) (o:xR):xR×Jp:=
 if h:o.1.length<1024 then(⟨o.1++[⟨⟨(i:Int),x⟩,(o.1.length:Int),qD long (qo rows x)⟩],BK h o.2.2 _ _⟩,.go) else(o,.rt)
theorem RO (fu:Nat){p:bp}(g:Good p){x:List Int}(hx:kn x) (hl:x.length=p.ba.length){times:List (List aT)}{rows:List aT}{i:Nat}(hi:times[i]?=some rows) (hr:∀r∈rows,fL r p.ba.length=0){long:Nat}(h1:rows.length≤long) (h2:long≤8) (hf:10<fu) (o:xR):
  F.mC fu x times 0 (long:Int) (i:Int) [] o.1=some (if (yS long i rows x o).2=.go then(0,times,0,(long:Int),(i:Int),[],(yS long i rows x o).1.1) else(2,times,5,(long:Int),(i:Int),[],(yS long i rows x o).1.1)):=by
 unfold F.mC yS
 have ho:=o.2.1
 by_cases h:o.1.length<1024
 ·have e:((o.1.length:Int)==1024)=false:=by simp;omega
  have c1:=bK (p:=(0:Int)≤(long:Int)∧(long:Int)≤(long:Int)∧((8:Nat):Int)*(long:Int)≤281474976710656∧(long:Int)≤9223372036854775807) (by omega)
  have c2:=bK (p:=o.1.length+[(⟨(⟨(i:Int),x⟩:bD),(o.1.length:Int),qD long (qo rows x)⟩:af)].length≤maxLen∧(o.1.length+[(⟨(⟨(i:Int),x⟩:bD),(o.1.length:Int),qD long (qo rows x)⟩:af)].length)*64≤140737488355328) (by simp only[cQ,maxLen];omega)
  rw[dif_pos h]
  simp only[e,cond_false,c1,ae,bJ hi,Kk fu g hx hl hr h1 h2 hf,c2,if_true]
 ·have e:((o.1.length:Int)==1024)=true:=by simp;omega
  rw[dif_neg h]
  simp only[e,cond_true]
  rfl
theorem QW (long i:Nat) (rows:List aT):∀(l:List (List Int)) (o:xR),(o.1.length+l.length≤1024→(dE (yS long i rows) l o).2=.go∧(dE (yS long i rows) l o).1.1.map pr=o.1.map pr++l.map fun x=>((⟨(i:Int),x⟩:bD),qD long (qo rows x)))∧
  (1024<o.1.length+l.length→(dE (yS long i rows) l o).2≠.go)
 | [],o=>⟨fun h=>⟨rfl,by simp[dE]⟩,fun h=>by have:=o.2.1;simp at h;omega⟩
 | x::l,o=>by
  by_cases h:o.1.length<1024
  ·have e:yS long i rows x o=(⟨o.1++[⟨⟨(i:Int),x⟩,(o.1.length:Int),qD long (qo rows x)⟩],BK h o.2.2 _ _⟩,.go):=by unfold yS;rw[dif_pos h]
   obtain⟨h1,h2⟩:=QW long i rows l ⟨o.1++[⟨⟨(i:Int),x⟩,(o.1.length:Int),qD long (qo rows x)⟩],BK h o.2.2 _ _⟩
   simp only[dE,e,if_true]
   simp only[ak,cQ] at h1 h2
   refine⟨fun g=>?_,fun g=>h2 (by simp at g;omega)⟩
   obtain⟨a,b⟩:=h1 (by simp at g;omega)
   exact⟨a,by rw[b];simp[pr]⟩
  ·have e:yS long i rows x o=(o,.rt):=by unfold yS;rw[dif_neg h]
   refine⟨fun g=>by simp at g;omega,fun _=>?_⟩
   simp only[dE,e]
   rw[if_neg (by decide)]
   show Jp.rt≠Jp.go
   decide
theorem Nt {p:bp}(g:Good p){times:List (List aT)}{rows:List aT}{i:Nat}(hi:times[i]?=some rows) (hrw:∀r∈rows,fL r p.ba.length=0){long:Nat}(h1:rows.length≤long) (h2:long≤8):∀(fu k:Nat) (x:List Int) (m:xR),k≤p.ba.length→x.length=p.ba.length→kn x→5000+(p.ba.length-k)<fu→
  ∃x':List Int,x'.length=p.ba.length∧kn x'∧x'.take k=x.take k∧F.gT fu p (k:Int) x 0 times 0 (long:Int) (i:Int) [] m.1=
   some (if (dE (yS long i rows) ((ext (p.ba.drop k) (x.take k)).filter (sat p)) m).2=.go then(true,x',0,times,0,(long:Int),(i:Int),[],(dE (yS long i rows) ((ext (p.ba.drop k) (x.take k)).filter (sat p)) m).1.1)
    else(false,x',2,times,5,(long:Int),(i:Int),[],(dE (yS long i rows) ((ext (p.ba.drop k) (x.take k)).filter (sat p)) m).1.1)):=by
 have h4:=g.len
 intro fu
 induction fu with
 | zero=>intro k x m _ _ _ h;omega
 | succ fu ih=>
  intro k x m hk hl hr hf
  show ∃x':List Int,x'.length=p.ba.length∧kn x'∧x'.take k=x.take k∧F.kG (F.gT fu) (fu+1) p (k:Int) x 0 times 0 (long:Int) (i:Int) [] m.1=_
  unfold F.kG
  rw[Au (fu+1) g hr hl k (by omega),ae]
  rcases fH (p.Rows.any fun r=>decide (oK r p x k<0)) with h | h
  ·rw[h,cond_true,HM g hr hl hk h]
   exact⟨x,hl,hr,rfl,rfl⟩
  ·rw[h,cond_false]
   by_cases hkl:k=p.ba.length
   ·subst hkl
    have hs:sat p x=true:=by
     have:=HN g hl
     rw[h] at this
     simpa using this.symm
    have e1:((p.ba.length:Int)==(p.ba.length:Int))=true:=by simp
    have hy:=RO (fu+1) g hr hl hi hrw h1 h2 (by omega) m
    rw[e1,cond_true,E5 (fu+1) x (by omega),ae,bK rfl,ae,hy,ae]
    refine⟨x,hl,hr,rfl,?_⟩
    rw[nv,b6 (Nat.le_of_eq hl)]
    simp only[ext,List.filter_cons,hs,if_true,List.filter_nil,dE]
    by_cases hgo:(yS long i rows x m).2=.go
    ·simp only[hgo,if_true];rfl
    ·simp only[hgo,if_false];rfl
   ·have hkl:k<p.ba.length:=by omega
    have e1:((k:Int)==(p.ba.length:Int))=false:=by simp;omega
    have hbx:=g.box _ (lP hkl)
    have htk:(x.take k).length=k:=by rw[aV];omega
    have ek:IntKind.i64.wrap ((k:Int)+1)=((k+1:Nat):Int):=by rw[i64 (by omega) (by omega)];omega
    rw[e1,cond_false,bJ (fq (l:=x) (i:=k) (by omega)),ae,bh]
    have hloop:=Ee (body:=F.lJ (F.gT fu) (fu+1) p (k:Int)) (fun x (m:xR)=>(x,0,times,0,(long:Int),(i:Int),[],m.1)) (fun x m=>Ex.dS (x,0,times,0,(long:Int),(i:Int),[],m.1)) (fun x m j=>Ex.ret (false,x,2,times,5,(long:Int),(i:Int),[],m.1)) (yS long i rows) p.ba.length (p.ba.getD k 0).toNat k
     (fun i=>(ext (p.ba.drop (k+1)) (x.take k++[(i:Int)])).filter (sat p)) (x.take k) hkl (by omega)
     (fun j y m hi hyl hyr hyt hyi=>by
      obtain⟨x1,a1,a2,a3,a4⟩:=ih (k+1) y m (by omega) hyl hyr (by omega)
      have ht:y.take (k+1)=x.take k++[(j:Int)]:=by
       rw[kz,hyt,fq (l:=y) (i:=k) (by omega),hyi];rfl
      have h1k:x1.getD k 0=(j:Int):=by
       rw[←uV (l:=x1) (jS k),a3,uV (jS k),hyi]
      refine⟨x1,a1,a2,?_,?_⟩
      ·have:x1.take k=(x1.take (k+1)).take k:=by rw[List.take_take,dt (by omega)]
       rw[this,a3,ht,List.take_append_of_le_length (by omega),b6 (by omega)]
      ·rw[ht] at a4
       have hd:decide ((j:Int)<p.ba.getD k 0)=true:=by simp only[decide_eq_true_eq];omega
       have hw:IntKind.i64.wrap ((j:Int)+1)=((j+1:Nat):Int):=by rw[i64 (by omega) (by omega)];omega
       have cl:Nat.beq (List.length x1) (List.length y)=true:=by rw[a1,hyl];exact aH _
       simp only[F.lJ,bJ (fq (l:=y) (i:=k) (by omega)),hyi,bJ (fq (l:=p.ba) (i:=k) hkl),ae,hd,cond_true,ek,a4]
       by_cases hgo:(dE (yS long i rows) ((ext (p.ba.drop (k+1)) (x.take k++[(j:Int)])).filter (sat p)) m).2=.go
       ·simp only[hgo,if_true,cl,cond_true,jN,cond_false,bJ (fq (l:=x1) (i:=k) (by omega)),h1k,hw,bh,ae]
       ·simp only[hgo,if_false,cl,cond_true,iA])
     (fun y m hyl hyi=>by
      have hd:decide (((p.ba.getD k 0).toNat:Int)<p.ba.getD k 0)=false:=by simp only[decide_eq_false_iff_not];omega
      simp only[F.lJ,bJ (fq (l:=y) (i:=k) (by omega)),hyi,bJ (fq (l:=p.ba) (i:=k) hkl),ae,hd,cond_false])
     (fu+1) (x.set k 0) m (by rw[de];exact hl) (fun z hz=>by
      rcases ko hz with h | h
      ·exact hr z h
      ·subst h;omega)
     (by rw[List.take_set,List.set_eq_of_length_le (by omega)])
     (by rw[aM,cF (by omega)];rfl) (by omega)
    obtain⟨x',b1,b2,b3,b4⟩:=hloop
    refine⟨x',b1,b2,b3,?_⟩
    have hdr:p.ba.drop k=p.ba.getD k 0::p.ba.drop (k+1):=by
     rw[bV hkl,aM,ag hkl];rfl
    rw[hdr,u0]
    try dsimp only at b4
    rw[b4]
    generalize dE (yS long i rows) _ m=R
    by_cases hgo:R.2=.go
    ·simp only[hgo,if_true];rfl
    ·simp only[hgo,if_false];rfl
theorem QI (fu:Nat){p:bp}(g:Good p){times:List (List aT)}{rows:List aT}{i:Nat}(hi:times[i]?=some rows) (hrw:∀r∈rows,fL r p.ba.length=0){long:Nat}(h1:rows.length≤long) (h2:long≤8) (hp:mM p=0) (m:xR) (hf:5010<fu):
  F.jY fu 0 p.ba p.Rows times 0 (long:Int) (i:Int) [] m.1=some (if (dE (yS long i rows) (qs p) m).2=.go then(0,p.ba,p.Rows,times,0,(long:Int),(i:Int),[],(dE (yS long i rows) (qs p) m).1.1)
   else(2,p.ba,p.Rows,times,5,(long:Int),(i:Int),[],(dE (yS long i rows) (qs p) m).1.1)):=by
 have h4:=g.len
 have c:=bK (p:=(0:Int)≤(p.ba.length:Int)∧(p.ba.length:Int)≤(p.ba.length:Int)∧((8:Nat):Int)*(p.ba.length:Int)≤281474976710656∧(p.ba.length:Int)≤9223372036854775807) (by omega)
 obtain⟨x',w1,w2,w3,w4⟩:=Nt g hi hrw h1 h2 fu 0 (List.replicate p.ba.length 0) m (g9 _) (by simp) (fun y hy=>by rw[gN hy];omega) (by omega)
 rw[eE,List.take_zero] at w4
 have w4:F.gT fu p 0 (List.replicate p.ba.length 0) 0 times 0 (long:Int) (i:Int) [] m.1=some (if (dE (yS long i rows) (qs p) m).2=.go then _ else _):=w4
 have e0:((0:Int)==0)=true:=rfl
 have cl:Nat.beq (List.length x') (List.length (List.replicate p.ba.length (0:Int)))=true:=by rw[w1,gK];exact aH _
 unfold F.jY
 rw[show(⟨p.ba,p.Rows⟩:bp)=p from rfl,AL fu p (by omega),hp]
 simp only[ae,e0,cond_true,c,bh,w4]
 by_cases hgo:(dE (yS long i rows) (qs p) m).2=.go
 ·simp only[hgo,if_true,cl,cond_true,ae];rfl
 ·simp only[hgo,if_false,cl,cond_true,ae];rfl
end Go.DN.So
