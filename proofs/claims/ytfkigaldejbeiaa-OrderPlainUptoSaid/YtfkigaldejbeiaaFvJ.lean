/-
  Orders: the plain law of OrderRuns: the eD of a statement, with their times.
-/
import Derived.Test.YtfkigaldejbeiaaFvI
import Derived.Test.YtfkigaldejbeiaaPlA
set_option linter.unusedSimpArgs false
set_option linter.unusedVariables false
namespace Go.DN.So
open Go.AM Go.DN
def pQ (long:Nat) (l:List Int):List Int:=l++List.replicate (long-l.length) 0
def pg (rows:List aO) (x:List Int):List Int:=rows.map fun r=>dR r x
def ph (long:Nat) (times:List (List aO)) (q:bE):List Int:=pQ long (pg (times.getD q.Stmt.toNat []) q.At)
def pr (s:af):bE×List Int:=(s.aS,s.time)
def pq (long:Nat) (times:List (List aO)) (q:bE):bE×List Int:=(q,ph long times q)
theorem Ql {l:List Int}{M k:Nat}{v:Int}(hk:k<M) (h:l[k]?=some v):(l.take k++List.replicate (M-k) 0).set k v=l.take (k+1)++List.replicate (M-(k+1)) 0:=by
 have hl:=ep h
 have h1:(l.take k).length=k:=by rw[aX];omega
 rw[List.set_append_right _ _ (by omega),h1,pD]
 obtain⟨r,hr⟩:∃r,M-k=r+1:=⟨M-k-1,by omega⟩
 rw[hr,ob,List.set_cons_zero,kC,h,show M-(k+1)=r by omega,aC]
 rfl
theorem KJ (fu:Nat){p:bu}(g:Good p){x:List Int}(hx:ku x) (hl:x.length=p.aU.length){rows:List aO}(hr:∀r∈rows,fN r p.aU.length=0){long:Nat}(h1:rows.length≤long) (h2:long≤8) (hf:10<fu):
  aB (F.ji fu x rows) fu (0,List.replicate (Int.toNat (long:Int)) (0:Int))=some (pQ long (pg rows x)):=by
 have hlen:(pg rows x).length=rows.length:=by simp[pg]
 have:=PL.tU (body:=F.ji fu x rows) rows (fun k=>((k:Int),(pg rows x).take k++List.replicate (long-k) 0)) (pQ long (pg rows x))
  (fun k r hk=>by
   have hk2:=ep hk
   have hw:=dh hk2 (by omega)
   have ha:=LM fu (g.with (hr r (ar hk))) (r:=r) (by simp) hx hl hf
   have ht:(pg rows x)[k]?=some (dR r x):=by simp[pg,hk]
   have hi:idx ((pg rows x).take k++List.replicate (long-k) 0) (k:Int)=some 0:=by
    refine bM ?_
    have h1:((pg rows x).take k).length=k:=by rw[aX];omega
    rw[cV (by omega),h1,pD,ff,if_pos (by omega)]
   simp only[F.ji,dec_lt hk,cond_true,bM hk,ae,ha,hi,hw,bc,Ql (show k<long by omega) ht])
  (by
   simp only[F.ji,eF,cond_false]
   rw[←hlen,nz];rfl) fu (by omega)
 rw[bc]
 simpa using this
def I0 (o:List af):Prop:=∀(i:Nat) (s:af),o[i]?=some s→s.number=(i:Int)
theorem B6 {o:List af}(h:o.length<1024) (hn:I0 o) (a:bE) (t:List Int):(o++[(⟨a,(o.length:Int),t⟩:af)]).length≤1024∧I0 (o++[(⟨a,(o.length:Int),t⟩:af)]):=by
 refine⟨by rw[ak,cS];omega,fun i s hi=>?_⟩
 rw[a9] at hi
 split at hi
 ·exact hn i s hi
 ·rename_i hlt
  have h0:i-o.length=0:=by
   have:=(al.1 hi).1
   simp at this
   omega
  rw[h0] at hi
  cases hi
  show(o.length:Int)=(i:Int)
  omega
abbrev yi:={o:List af // o.length≤1024∧I0 o}
def yS (long i:Nat) (rows:List aO) (x:List Int) (o:yi):yi×Jp:=
 if h:o.1.length<1024 then(⟨o.1++[⟨⟨(i:Int),x⟩,(o.1.length:Int),pQ long (pg rows x)⟩],B6 h o.2.2 _ _⟩,.go) else(o,.rt)
theorem Si (fu:Nat){p:bu}(g:Good p){x:List Int}(hx:ku x) (hl:x.length=p.aU.length){times:List (List aO)}{rows:List aO}{i:Nat}(hi:times[i]?=some rows) (hr:∀r∈rows,fN r p.aU.length=0){long:Nat}(h1:rows.length≤long) (h2:long≤8) (hf:10<fu) (o:yi):
  F.mJ fu x times 0 (long:Int) (i:Int) [] o.1=some (if (yS long i rows x o).2=.go then(0,times,0,(long:Int),(i:Int),[],(yS long i rows x o).1.1) else(2,times,5,(long:Int),(i:Int),[],(yS long i rows x o).1.1)):=by
 unfold F.mJ yS
 have ho:=o.2.1
 by_cases h:o.1.length<1024
 ·have e:((o.1.length:Int)==1024)=false:=by simp;omega
  have c1:=bJ (p:=(0:Int)≤(long:Int)∧(long:Int)≤(long:Int)∧((8:Nat):Int)*(long:Int)≤281474976710656∧(long:Int)≤9223372036854775807) (by omega)
  have c2:=bJ (p:=o.1.length+[(⟨(⟨(i:Int),x⟩:bE),(o.1.length:Int),pQ long (pg rows x)⟩:af)].length≤maxLen∧(o.1.length+[(⟨(⟨(i:Int),x⟩:bE),(o.1.length:Int),pQ long (pg rows x)⟩:af)].length)*64≤140737488355328) (by simp only[cS,maxLen];omega)
  rw[dif_pos h]
  simp only[e,cond_false,c1,ae,bM hi,KJ fu g hx hl hr h1 h2 hf,c2,if_true]
 ·have e:((o.1.length:Int)==1024)=true:=by simp;omega
  rw[dif_neg h]
  simp only[e,cond_true]
  rfl
theorem Rm (long i:Nat) (rows:List aO):∀(l:List (List Int)) (o:yi),(o.1.length+l.length≤1024→(dI (yS long i rows) l o).2=.go∧(dI (yS long i rows) l o).1.1.map pr=o.1.map pr++l.map fun x=>((⟨(i:Int),x⟩:bE),pQ long (pg rows x)))∧
  (1024<o.1.length+l.length→(dI (yS long i rows) l o).2≠.go)
 | [],o=>⟨fun h=>⟨rfl,by simp[dI]⟩,fun h=>by have:=o.2.1;simp at h;omega⟩
 | x::l,o=>by
  by_cases h:o.1.length<1024
  ·have e:yS long i rows x o=(⟨o.1++[⟨⟨(i:Int),x⟩,(o.1.length:Int),pQ long (pg rows x)⟩],B6 h o.2.2 _ _⟩,.go):=by unfold yS;rw[dif_pos h]
   obtain⟨h1,h2⟩:=Rm long i rows l ⟨o.1++[⟨⟨(i:Int),x⟩,(o.1.length:Int),pQ long (pg rows x)⟩],B6 h o.2.2 _ _⟩
   simp only[dI,e,if_true]
   simp only[ak,cS] at h1 h2
   refine⟨fun g=>?_,fun g=>h2 (by simp at g;omega)⟩
   obtain⟨a,b⟩:=h1 (by simp at g;omega)
   exact⟨a,by rw[b];simp[pr]⟩
  ·have e:yS long i rows x o=(o,.rt):=by unfold yS;rw[dif_neg h]
   refine⟨fun g=>by simp at g;omega,fun _=>?_⟩
   simp only[dI,e]
   rw[if_neg (by decide)]
   show Jp.rt≠Jp.go
   decide
theorem NS {p:bu}(g:Good p){times:List (List aO)}{rows:List aO}{i:Nat}(hi:times[i]?=some rows) (hrw:∀r∈rows,fN r p.aU.length=0){long:Nat}(h1:rows.length≤long) (h2:long≤8):∀(fu k:Nat) (x:List Int) (m:yi),k≤p.aU.length→x.length=p.aU.length→ku x→5000+(p.aU.length-k)<fu→
  ∃x':List Int,x'.length=p.aU.length∧ku x'∧x'.take k=x.take k∧F.gU fu p (k:Int) x 0 times 0 (long:Int) (i:Int) [] m.1=
   some (if (dI (yS long i rows) ((ext (p.aU.drop k) (x.take k)).filter (sat p)) m).2=.go then(true,x',0,times,0,(long:Int),(i:Int),[],(dI (yS long i rows) ((ext (p.aU.drop k) (x.take k)).filter (sat p)) m).1.1)
    else(false,x',2,times,5,(long:Int),(i:Int),[],(dI (yS long i rows) ((ext (p.aU.drop k) (x.take k)).filter (sat p)) m).1.1)):=by
 have h4:=g.len
 intro fu
 induction fu with
 | zero=>intro k x m _ _ _ h;omega
 | succ fu ih=>
  intro k x m hk hl hr hf
  show ∃x':List Int,x'.length=p.aU.length∧ku x'∧x'.take k=x.take k∧F.kJ (F.gU fu) (fu+1) p (k:Int) x 0 times 0 (long:Int) (i:Int) [] m.1=_
  unfold F.kJ
  rw[AP (fu+1) g hr hl k (by omega),ae]
  rcases fJ (p.Rows.any fun r=>decide (oS r p x k<0)) with h | h
  ·rw[h,cond_true,H6 g hr hl hk h]
   exact⟨x,hl,hr,rfl,rfl⟩
  ·rw[h,cond_false]
   by_cases hkl:k=p.aU.length
   ·subst hkl
    have hs:sat p x=true:=by
     have:=H7 g hl
     rw[h] at this
     simpa using this.symm
    have e1:((p.aU.length:Int)==(p.aU.length:Int))=true:=by simp
    have hy:=Si (fu+1) g hr hl hi hrw h1 h2 (by omega) m
    rw[e1,cond_true,Fp (fu+1) x (by omega),ae,bJ rfl,ae,hy,ae]
    refine⟨x,hl,hr,rfl,?_⟩
    rw[nB,b8 (Nat.le_of_eq hl)]
    simp only[ext,List.filter_cons,hs,if_true,List.filter_nil,dI]
    by_cases hgo:(yS long i rows x m).2=.go
    ·simp only[hgo,if_true];rfl
    ·simp only[hgo,if_false];rfl
   ·have hkl:k<p.aU.length:=by omega
    have e1:((k:Int)==(p.aU.length:Int))=false:=by simp;omega
    have hbx:=g.box _ (lV hkl)
    have htk:(x.take k).length=k:=by rw[aX];omega
    have ek:IntKind.i64.wrap ((k:Int)+1)=((k+1:Nat):Int):=by rw[i64 (by omega) (by omega)];omega
    rw[e1,cond_false,bM (fw (l:=x) (i:=k) (by omega)),ae,bc]
    have hloop:=Ew (body:=F.lO (F.gU fu) (fu+1) p (k:Int)) (fun x (m:yi)=>(x,0,times,0,(long:Int),(i:Int),[],m.1)) (fun x m=>Ex.dW (x,0,times,0,(long:Int),(i:Int),[],m.1)) (fun x m j=>Ex.ret (false,x,2,times,5,(long:Int),(i:Int),[],m.1)) (yS long i rows) p.aU.length (p.aU.getD k 0).toNat k
     (fun i=>(ext (p.aU.drop (k+1)) (x.take k++[(i:Int)])).filter (sat p)) (x.take k) hkl (by omega)
     (fun j y m hi hyl hyr hyt hyi=>by
      obtain⟨x1,a1,a2,a3,a4⟩:=ih (k+1) y m (by omega) hyl hyr (by omega)
      have ht:y.take (k+1)=x.take k++[(j:Int)]:=by
       rw[kC,hyt,fw (l:=y) (i:=k) (by omega),hyi];rfl
      have h1k:x1.getD k 0=(j:Int):=by
       rw[←u7 (l:=x1) (jV k),a3,u7 (jV k),hyi]
      refine⟨x1,a1,a2,?_,?_⟩
      ·have:x1.take k=(x1.take (k+1)).take k:=by rw[List.take_take,dy (by omega)]
       rw[this,a3,ht,List.take_append_of_le_length (by omega),b8 (by omega)]
      ·rw[ht] at a4
       have hd:decide ((j:Int)<p.aU.getD k 0)=true:=by simp only[decide_eq_true_eq];omega
       have hw:IntKind.i64.wrap ((j:Int)+1)=((j+1:Nat):Int):=by rw[i64 (by omega) (by omega)];omega
       have cl:Nat.beq (List.length x1) (List.length y)=true:=by rw[a1,hyl];exact aI _
       simp only[F.lO,bM (fw (l:=y) (i:=k) (by omega)),hyi,bM (fw (l:=p.aU) (i:=k) hkl),ae,hd,cond_true,ek,a4]
       by_cases hgo:(dI (yS long i rows) ((ext (p.aU.drop (k+1)) (x.take k++[(j:Int)])).filter (sat p)) m).2=.go
       ·simp only[hgo,if_true,cl,cond_true,jQ,cond_false,bM (fw (l:=x1) (i:=k) (by omega)),h1k,hw,bc,ae]
       ·simp only[hgo,if_false,cl,cond_true,iD])
     (fun y m hyl hyi=>by
      have hd:decide (((p.aU.getD k 0).toNat:Int)<p.aU.getD k 0)=false:=by simp only[decide_eq_false_iff_not];omega
      simp only[F.lO,bM (fw (l:=y) (i:=k) (by omega)),hyi,bM (fw (l:=p.aU) (i:=k) hkl),ae,hd,cond_false])
     (fu+1) (x.set k 0) m (by rw[cW];exact hl) (fun z hz=>by
      rcases kv hz with h | h
      ·exact hr z h
      ·subst h;omega)
     (by rw[List.take_set,List.set_eq_of_length_le (by omega)])
     (by rw[aE,cG (by omega)];rfl) (by omega)
    obtain⟨x',b1,b2,b3,b4⟩:=hloop
    refine⟨x',b1,b2,b3,?_⟩
    have hdr:p.aU.drop k=p.aU.getD k 0::p.aU.drop (k+1):=by
     rw[bY hkl,aE,ag hkl];rfl
    rw[hdr,vd]
    try dsimp only at b4
    rw[b4]
    generalize dI (yS long i rows) _ m=R
    by_cases hgo:R.2=.go
    ·simp only[hgo,if_true];rfl
    ·simp only[hgo,if_false];rfl
theorem Q9 (fu:Nat){p:bu}(g:Good p){times:List (List aO)}{rows:List aO}{i:Nat}(hi:times[i]?=some rows) (hrw:∀r∈rows,fN r p.aU.length=0){long:Nat}(h1:rows.length≤long) (h2:long≤8) (hp:mR p=0) (m:yi) (hf:5010<fu):
  F.j8 fu 0 p.aU p.Rows times 0 (long:Int) (i:Int) [] m.1=some (if (dI (yS long i rows) (qA p) m).2=.go then(0,p.aU,p.Rows,times,0,(long:Int),(i:Int),[],(dI (yS long i rows) (qA p) m).1.1)
   else(2,p.aU,p.Rows,times,5,(long:Int),(i:Int),[],(dI (yS long i rows) (qA p) m).1.1)):=by
 have h4:=g.len
 have c:=bJ (p:=(0:Int)≤(p.aU.length:Int)∧(p.aU.length:Int)≤(p.aU.length:Int)∧((8:Nat):Int)*(p.aU.length:Int)≤281474976710656∧(p.aU.length:Int)≤9223372036854775807) (by omega)
 obtain⟨x',w1,w2,w3,w4⟩:=NS g hi hrw h1 h2 fu 0 (List.replicate p.aU.length 0) m (hZ _) (by simp) (fun y hy=>by rw[gO hy];omega) (by omega)
 rw[eH,List.take_zero] at w4
 have w4:F.gU fu p 0 (List.replicate p.aU.length 0) 0 times 0 (long:Int) (i:Int) [] m.1=some (if (dI (yS long i rows) (qA p) m).2=.go then _ else _):=w4
 have e0:((0:Int)==0)=true:=rfl
 have cl:Nat.beq (List.length x') (List.length (List.replicate p.aU.length (0:Int)))=true:=by rw[w1,eY];exact aI _
 unfold F.j8
 rw[show(⟨p.aU,p.Rows⟩:bu)=p from rfl,A7 fu p (by omega),hp]
 simp only[ae,e0,cond_true,c,bc,w4]
 by_cases hgo:(dI (yS long i rows) (qA p) m).2=.go
 ·simp only[hgo,if_true,cl,cond_true,ae];rfl
 ·simp only[hgo,if_false,cl,cond_true,ae];rfl
end Go.DN.So
