/-
  Orders: the plain law of OrderFinds: one step of order.uQ: who is there, who is seen.
-/
import Derived.Test.YtfkigaldejbeiaaFgA
set_option linter.unusedSimpArgs false
set_option linter.unusedVariables false
namespace Go.DN.So
open Go.AM Go.DN
structure SS (d d':bH):Prop where
 wm:WM d'
 n:d'.n≤d.n+1
 rows:∀a b j,cv d' a b j=cv d a b j
theorem IR (fu:Nat){d:bH}(w:WM d) (hn:d.n≤100000) (c:g7):∃e d',F.b5 fu c d=some (false,((e.t:Nat):Int),((0:Nat):Int),d')∧F.b5 fu c d'=some (false,((e.t:Nat):Int),((0:Nat):Int),d')∧gF d'.es c.array c.at_=some e∧SS d d':=by
 have here:∀{d:bH}{e:bS},gF d.es c.array c.at_=some e→F.b5 fu c d=some (false,((e.t:Nat):Int),((0:Nat):Int),d):=by
  intro d e h
  have h1:uV d.es c.array c.at_=false:=by unfold uV;rw[h]
  have h2:JF d.es c.array c.at_=e.t:=by unfold JF;rw[h]
  unfold F.b5
  simp only[h1,h2,iD,jQ,cond_false,ae,bc]
 cases h:gF d.es c.array c.at_ with
 | some e=>exact⟨e,d,here h,here h,h,⟨w,Nat.le_succ _,fun _ _ _=>rfl⟩⟩
 | none=>
  have h1:uV d.es c.array c.at_=true:=by unfold uV;rw[h]
  have hm:gF (ze d c.array c.at_ 3).es c.array c.at_=some ⟨c.array,c.at_,d.n,List.replicate 3 (iK,[])⟩:=by
   show gF (d.es++[_]) _ _=_
   rw[Bu,h]
   simp[gF]
  refine⟨_,ze d c.array c.at_ 3,?_,here hm,hm,⟨w.put _ _,az _,N9 h⟩⟩
  unfold F.b5
  have hc:∀i,@bo (d.n+1≤maxLen∧True) i=some ():=fun i=>by unfold bo;rw[if_pos ⟨by simp only[maxLen];omega,trivial⟩]
  simp only[h1,jQ,iD,cond_true,ae,hc,bc]
def eK (p:Int→Bool) (f k:Int):Int:=if (f<0∨k<f)∧p k=true then k else f
def Seen (bd:af→af→Option Bool) (b:af) (p:Int→Bool) (L:List af) (l:List Int):Prop:=∀k∈l,∃a,idx L k=some a∧bd a b=some (p k)
theorem Mo {bd:af→af→Option Bool}(fu:Nat){L:List af}{b1:Int}{b2:List Int}{b3:Int}{b4:List Int}{p:Int→Bool}{k:Int}(h:∃a,idx L k=some a∧bd a ⟨⟨b1,b2⟩,b3,b4⟩=some (p k)) (f:Int):
  Gn.GS bd fu k f L b1 b2 b3 b4=some (eK p f k,L,b1,b2,b3,b4):=by
 obtain⟨a,h1,h2⟩:=h
 unfold Gn.GS eK
 by_cases c1:f<0
 ·simp only[PL.du c1,cond_true,h1,h2,ae]
  cases hp:p k with
  | true=>rw[if_pos ⟨.inl c1,rfl⟩];rfl
  | false=>rw[if_neg (fun h=>by cases h.2)];rfl
 ·by_cases c2:k<f
  ·simp only[PL.cA c1,PL.du c2,cond_true,cond_false,h1,h2,ae]
   cases hp:p k with
   | true=>rw[if_pos ⟨.inr c2,rfl⟩];rfl
   | false=>rw[if_neg (fun h=>by cases h.2)];rfl
  ·simp only[PL.cA c1,PL.cA c2,cond_false,ae]
   rw[if_neg (fun h=>h.1.elim c1 c2)]
theorem IA (l:List Int):decide (((l.length:Nat):Int)<((l.length:Nat):Int))=false:=by simp
theorem Ma {bd:af→af→Option Bool}(fu:Nat){L:List af}{b1:Int}{b2:List Int}{b3:Int}{b4:List Int}{p:Int→Bool}{l1 m3 m4 m5 m6 v:Int}{d:bH}{z:Nat}{l:List Int}
  (hz:([((Int.toNat m3),(Int.toNat m4)),((Int.toNat m5),(Int.toNat m6))]:List (Nat×Nat)).getD ((Int.toNat l1)+v.toNat) (0,0)=(z,l.length)) (hc:∀(i:Nat) (x:Int),l[i]?=some x→nM d.es z i=some x)
  (hs:Seen bd ⟨⟨b1,b2⟩,b3,b4⟩ p L l) (hl:l.length≤100000) (hf:100000<fu) (f:Int):
  aB (Gn.tI bd fu l1 m3 m4 m5 m6 d v) fu (0,f,L,b1,b2,b3,b4)=some (l.foldl (eK p) f,L,b1,b2,b3,b4):=by
 have:=PL.tU (body:=Gn.tI bd fu l1 m3 m4 m5 m6 d v) l (fun k=>((k:Int),(l.take k).foldl (eK p) f,L,b1,b2,b3,b4)) (l.foldl (eK p) f,L,b1,b2,b3,b4)
  (fun k x hk=>by
   have hw:=dh (ep hk) (by omega)
   have hlt:=ep hk
   have c1:=bJ (p:=(0:Int)≤(k:Int)∧(k:Int)<((l.length:Nat):Int)) (by omega)
   simp only[Gn.tI,hz,dec_lt hk,cond_true,c1,ae,bc,hc k x hk,Mo fu (hs x (ar hk)),hw,PL.take_succ hk,iC,jD,List.foldl_nil])
  (by simp only[Gn.tI,hz,IA,cond_false,nz]) fu (by omega)
 exact this
theorem Rt {bd:af→af→Option Bool}(fu:Nat){L:List af}{b1:Int}{b2:List Int}{b3:Int}{b4:List Int}{p:Int→Bool}{l1 m3 m4 v:Int}{d:bH}{z:Nat}{l:List Int}
  (hz:([((Int.toNat m3),(Int.toNat m4))]:List (Nat×Nat)).getD ((Int.toNat l1)+v.toNat) (0,0)=(z,l.length)) (hc:∀(i:Nat) (x:Int),l[i]?=some x→nM d.es z i=some x)
  (hs:Seen bd ⟨⟨b1,b2⟩,b3,b4⟩ p L l) (hl:l.length≤100000) (hf:100000<fu) (f:Int):
  aB (Gn.we bd fu l1 m3 m4 d v) fu (0,f,L,b1,b2,b3,b4)=some (l.foldl (eK p) f,L,b1,b2,b3,b4):=by
 have:=PL.tU (body:=Gn.we bd fu l1 m3 m4 d v) l (fun k=>((k:Int),(l.take k).foldl (eK p) f,L,b1,b2,b3,b4)) (l.foldl (eK p) f,L,b1,b2,b3,b4)
  (fun k x hk=>by
   have hw:=dh (ep hk) (by omega)
   have hlt:=ep hk
   have c1:=bJ (p:=(0:Int)≤(k:Int)∧(k:Int)<((l.length:Nat):Int)) (by omega)
   simp only[Gn.we,hz,dec_lt hk,cond_true,c1,ae,bc,hc k x hk,Mo fu (hs x (ar hk)),hw,PL.take_succ hk,iC,jD,List.foldl_nil])
  (by simp only[Gn.we,hz,IA,cond_false,nz]) fu (by omega)
 exact this
theorem L9 {bd:af→af→Option Bool}(fu:Nat){L:List af}{b1:Int}{b2:List Int}{b3:Int}{b4:List Int}{p:Int→Bool}{d:bH}{z z':Nat}{l l':List Int}
  (hc:∀(i:Nat) (x:Int),l[i]?=some x→nM d.es z i=some x) (hc':∀(i:Nat) (x:Int),l'[i]?=some x→nM d.es z' i=some x)
  (hs:Seen bd ⟨⟨b1,b2⟩,b3,b4⟩ p L l) (hs':Seen bd ⟨⟨b1,b2⟩,b3,b4⟩ p L l') (hl:l.length≤100000) (hl':l'.length≤100000) (hf:100000<fu) (f:Int):
  Gn.two bd fu ((0:Nat):Int) ((2:Nat):Int) ((z:Nat):Int) (((List.length l):Nat):Int) ((z':Nat):Int) (((List.length l'):Nat):Int) d f L b1 b2 b3 b4=some (d,(l++l').foldl (eK p) f,L,b1,b2,b3,b4):=by
 obtain⟨g,hg⟩:∃g,fu=g+3:=⟨fu-3,by omega⟩
 have q1:=Ma (bd:=bd) fu (L:=L) (b1:=b1) (b2:=b2) (b3:=b3) (b4:=b4) (p:=p) (l1:=((0:Nat):Int)) (m3:=(z:Int)) (m4:=((List.length l:Nat):Int)) (m5:=(z':Int)) (m6:=((List.length l':Nat):Int)) (v:=0) (d:=d) (z:=z) (l:=l) (by simp) hc hs hl hf f
 have q2:=Ma (bd:=bd) fu (L:=L) (b1:=b1) (b2:=b2) (b3:=b3) (b4:=b4) (p:=p) (l1:=((0:Nat):Int)) (m3:=(z:Int)) (m4:=((List.length l:Nat):Int)) (m5:=(z':Int)) (m6:=((List.length l':Nat):Int)) (v:=1) (d:=d) (z:=z') (l:=l') (by simp) hc' hs' hl' hf (l.foldl (eK p) f)
 have w0:IntKind.i64.wrap (0+1)=1:=i64 (by omega) (by omega)
 have w1:IntKind.i64.wrap (1+1)=2:=i64 (by omega) (by omega)
 have d0:decide ((0:Int)<((Int.toNat ((2:Nat):Int):Nat):Int))=true:=by decide
 have d1:decide ((1:Int)<((Int.toNat ((2:Nat):Int):Nat):Int))=true:=by decide
 have d2:decide ((2:Int)<((Int.toNat ((2:Nat):Int):Nat):Int))=false:=by decide
 have c0:bo ((0:Int)≤0∧(0:Int)<((Int.toNat ((2:Nat):Int):Nat):Int))=some ():=bJ (by decide)
 have c1:bo ((0:Int)≤1∧(1:Int)<((Int.toNat ((2:Nat):Int):Nat):Int))=some ():=bJ (by decide)
 have e0:∀x y:Nat×Nat,bo (Int.toNat ((0:Nat):Int)+Int.toNat 0<[x,y].length)=some ():=fun x y=>bJ (by show 0<2;decide)
 have e1:∀x y:Nat×Nat,bo (Int.toNat ((0:Nat):Int)+Int.toNat 1<[x,y].length)=some ():=fun x y=>bJ (by show 1<2;decide)
 have key:∀g,aB (Gn.Gl bd fu ((0:Nat):Int) ((2:Nat):Int) ((z:Nat):Int) (((List.length l):Nat):Int) ((z':Nat):Int) (((List.length l'):Nat):Int) d) (g+3) (0,f,L,b1,b2,b3,b4)=some (l'.foldl (eK p) (l.foldl (eK p) f),L,b1,b2,b3,b4):=fun g=>by
  generalize hF:aB (Gn.tI bd fu ((0:Nat):Int) ((z:Nat):Int) (((List.length l):Nat):Int) ((z':Nat):Int) (((List.length l'):Nat):Int) d 0) fu=F0 at q1
  generalize hG:aB (Gn.tI bd fu ((0:Nat):Int) ((z:Nat):Int) (((List.length l):Nat):Int) ((z':Nat):Int) (((List.length l'):Nat):Int) d 1) fu=F1 at q2
  simp only[aB,Gn.Gl,d0,d1,d2,cond_true,cond_false,c0,c1,e0,e1,ae,hF,hG,q1,q2,w0,w1]
 unfold Gn.two
 rw[iC]
 have:=key g
 rw[←hg] at this
 rw[this];rfl
theorem Rs {bd:af→af→Option Bool}(fu:Nat){L:List af}{b1:Int}{b2:List Int}{b3:Int}{b4:List Int}{p:Int→Bool}{d:bH}{z:Nat}{l:List Int}
  (hc:∀(i:Nat) (x:Int),l[i]?=some x→nM d.es z i=some x)
  (hs:Seen bd ⟨⟨b1,b2⟩,b3,b4⟩ p L l) (hl:l.length≤100000) (hf:100000<fu) (f:Int):
  Gn.one bd fu ((0:Nat):Int) ((1:Nat):Int) ((z:Nat):Int) (((List.length l):Nat):Int) d f L b1 b2 b3 b4=some (d,l.foldl (eK p) f,L,b1,b2,b3,b4):=by
 obtain⟨g,hg⟩:∃g,fu=g+3:=⟨fu-3,by omega⟩
 have q1:=Rt (bd:=bd) fu (L:=L) (b1:=b1) (b2:=b2) (b3:=b3) (b4:=b4) (p:=p) (l1:=((0:Nat):Int)) (m3:=(z:Int)) (m4:=((List.length l:Nat):Int)) (v:=0) (d:=d) (z:=z) (l:=l) (by simp) hc hs hl hf f
 have w0:IntKind.i64.wrap (0+1)=1:=i64 (by omega) (by omega)
 have d0:decide ((0:Int)<((Int.toNat ((1:Nat):Int):Nat):Int))=true:=by decide
 have d1:decide ((1:Int)<((Int.toNat ((1:Nat):Int):Nat):Int))=false:=by decide
 have c0:bo ((0:Int)≤0∧(0:Int)<((Int.toNat ((1:Nat):Int):Nat):Int))=some ():=bJ (by decide)
 have e0:∀x:Nat×Nat,bo (Int.toNat ((0:Nat):Int)+Int.toNat 0<[x].length)=some ():=fun x=>bJ (by show 0<1;decide)
 have key:∀g,aB (Gn.Hn bd fu ((0:Nat):Int) ((1:Nat):Int) ((z:Nat):Int) (((List.length l):Nat):Int) d) (g+3) (0,f,L,b1,b2,b3,b4)=some (l.foldl (eK p) f,L,b1,b2,b3,b4):=fun g=>by
  generalize hF:aB (Gn.we bd fu ((0:Nat):Int) ((z:Nat):Int) (((List.length l):Nat):Int) d 0) fu=F0 at q1
  simp only[aB,Gn.Hn,d0,d1,cond_true,cond_false,c0,e0,ae,hF,q1,w0]
 unfold Gn.one
 have:=key g
 rw[←hg] at this
 rw[this];rfl
end Go.DN.So
