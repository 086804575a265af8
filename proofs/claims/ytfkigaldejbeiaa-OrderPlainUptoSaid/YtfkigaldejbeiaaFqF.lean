/-
  Orders: the plain law of OrderRuns: the stable sort.
-/
import Derived.Test.YtfkigaldejbeiaaFqE
set_option linter.unusedSimpArgs false
set_option linter.unusedVariables false
namespace Go.DN.So
open Go.AM
inductive FB (k:Nat):List af→Prop
 | nil:FB k []
 | cons {b l:List af}:b.length=k→gg b→FB k l→FB k (b++l)
theorem FB.gz {k:Nat}{a b:List af}(h:FB k a) (h':FB k b):FB k (a++b):=by
 induction h with
 | nil=>exact h'
 | cons h1 h2 _ ih=>rw[aC];exact .cons h1 h2 ih
theorem FB.one {k:Nat}{a:List af}(h1:a.length=k) (h2:gg a):FB k a:=by
 have:=FB.cons h1 h2 .nil
 rwa[cc] at this
def SB (k:Nat) (l:List af):Prop:=∃f r,l=f++r∧FB k f∧r.length<k∧gg r
theorem B9 {a b:List af}(h:a.length=b.length):Nat.beq a.length b.length=true:=by rw[Nat.beq_eq];exact h
theorem IP (fu:Nat) (hf:2000<fu):∀(k:Nat) (U pre:List af) (n:Nat) (a b N:Int),U.length≤k→k<n→pre.length+U.length≤1500→Tm U→a=(pre.length:Int)→b=((pre.length+20:Nat):Int)→N=((pre.length+U.length:Nat):Int)→
  ∃f r,FB 20 f∧r.length<20∧f.length+r.length=U.length∧FE (f++r) U∧aB (F.iU fu N) n (a,b,pre++U)=some (((pre.length+f.length:Nat):Int),pre++(f++r))
 | 0,U,pre,n,a,b,N,hk,hn,hl,ht,ha,hb,hN=>by
  obtain⟨n,rfl⟩:∃f,n=f+1:=⟨n-1,by omega⟩
  obtain rfl:U=[]:=dg.1 (by omega)
  refine⟨[],[],.nil,by simp,rfl,FE.refl _,?_⟩
  simp only[aB,F.iU]
  rw[PL.cA (by simp at hN;omega),ha];rfl
 | k+1,U,pre,n,a,b,N,hk,hn,hl,ht,ha,hb,hN=>by
  obtain⟨n,rfl⟩:∃f,n=f+1:=⟨n-1,by omega⟩
  simp only[aB,F.iU]
  by_cases h:20≤U.length
  ·obtain⟨A,V,rfl,hA⟩:=tJ U 20 h
   simp only[ak] at hk hl hN h
   obtain⟨C,c1,c2⟩:=HV fu hf (pre:=pre) (A:=A) (post:=V) (by omega) ht.left (a:=a) (b:=b) ha (by omega)
   have l1:=c1.2.1
   rw[PL.du (by omega),c2]
   have hq:Nat.beq (pre++(C++V)).length (pre++(A++V)).length=true:=B9 (by simp only[ak];omega)
   simp only[cond_true,ae,hq]
   obtain⟨f,r,e1,e2,e3,e4,e5⟩:=IP fu hf k V (pre++C) n b (IntKind.wrap .i64 (b+20)) N (by omega) (by omega) (by simp only[ak];omega) ht.right (by simp only[ak];omega)
    (by rw[i64 (by omega) (by omega)];simp only[ak];omega) (by simp only[ak];omega)
   refine⟨C++f,r,.cons (by omega) c1.1 e1,e2,by simp only[ak];omega,?_,?_⟩
   ·rw[aC];exact c1.2.2.gz e4
   ·rw[show pre.length+(C++f).length=(pre++C).length+f.length by simp only[ak];omega]
    simpa only[aC] using e5
  ·refine⟨[],U,.nil,by omega,by simp,FE.refl _,?_⟩
   rw[PL.cA (by omega),ha];rfl
theorem IC (fu:Nat) (hf:5100<fu) (bs:Nat) (hbs:20≤bs):∀(k:Nat) (f pre r:List af) (n:Nat) (a b N:Int),f.length≤k→k<n→pre.length+f.length+r.length≤1500→bs≤3000→Tm (pre++(f++r))→FB bs f→r.length<bs→a=(pre.length:Int)→b=((pre.length+2*bs:Nat):Int)→N=((pre.length+f.length+r.length:Nat):Int)→
  ∃g f2,FB (2*bs) g∧(f2=[]∨f2.length=bs∧gg f2)∧g.length+f2.length=f.length∧FE (g++f2) f∧aB (F.iT fu N (bs:Int)) n (a,b,pre++(f++r))=some (((pre.length+g.length:Nat):Int),pre++(g++(f2++r)))
 | 0,f,pre,r,n,a,b,N,hk,hn,hl,hb2,ht,hF,hr,ha,hb,hN=>by
  obtain⟨n,rfl⟩:∃f,n=f+1:=⟨n-1,by omega⟩
  obtain rfl:f=[]:=dg.1 (by omega)
  refine⟨[],[],.nil,Or.inl rfl,rfl,FE.refl _,?_⟩
  simp only[aB,F.iT]
  rw[PL.cA (by simp at hN;omega),ha];rfl
 | k+1,f,pre,r,n,a,b,N,hk,hn,hl,hb2,ht,hF,hr,ha,hb,hN=>by
  obtain⟨n,rfl⟩:∃f,n=f+1:=⟨n-1,by omega⟩
  simp only[aB,F.iT]
  cases hF with
  | nil=>
   refine⟨[],[],.nil,Or.inl rfl,rfl,FE.refl _,?_⟩
   rw[PL.cA (by simp at hN;omega),ha];rfl
  | @cons A l hA sA hF=>
   cases hF with
   | nil=>
    refine⟨[],A,.nil,Or.inr ⟨hA,sA⟩,by simp,by simpa using FE.refl A,?_⟩
    rw[PL.cA (by simp at hN;omega),ha];simp
   | @cons B l hB sB hF=>
    simp only[ak] at hk hl hN
    have e:pre++(A++(B++l)++r)=pre++(A++(B++(l++r))):=by simp only[aC]
    rw[e] at ht⊢
    obtain⟨C,c1,c2⟩:=Gz fu A B pre (l++r) a (IntKind.wrap .i64 (a+(bs:Int))) b (by omega) (by omega) (by omega) (by simp only[ak];omega) ht sA sB ha (by rw[i64 (by omega) (by omega)];omega) (by omega)
    have l1:=c1.2.1
    rw[ak] at l1
    rw[PL.du (by omega),c2]
    have hq:Nat.beq (pre++(C++(l++r))).length (pre++(A++(B++(l++r)))).length=true:=B9 (by simp only[ak];omega)
    simp only[cond_true,ae,hq]
    have tC:Tm C:=c1.tm (ht.right.left.gz ht.right.right.left)
    obtain⟨g,f2,e1,e2,e3,e4,e5⟩:=IC fu hf bs hbs k l (pre++C) r n b (IntKind.wrap .i64 (b+(IntKind.wrap .i64 (2*(bs:Int))))) N (by omega) (by omega) (by simp only[ak];omega) hb2
     ((ht.left.gz tC).gz ht.right.right.right) hF hr (by simp only[ak];omega)
     (by rw[i64 (n:=2*(bs:Int)) (by omega) (by omega),i64 (by omega) (by omega)];simp only[ak];omega) (by simp only[ak];omega)
    refine⟨C++g,f2,.cons (by omega) c1.1 e1,e2,by simp only[ak];omega,?_,?_⟩
    ·have:=c1.2.2.gz e4
     simpa only[aC] using this
    ·rw[show pre.length+(C++g).length=(pre++C).length+g.length by simp only[ak];omega]
     simpa only[aC] using e5
theorem Fo (fu:Nat) (hf:5100<fu) (N:Nat) (hN:N≤1500):∀(k bs:Nat) (l:List af) (n:Nat),20≤bs→N-bs≤k→k<n→bs≤3000→l.length=N→Tm l→SB bs l→
  ∃l',Sd l' l∧aB (F.iS fu (N:Int)) n ((bs:Int),l)=some l'
 | k,bs,l,n,h0,hk,hn,hb,hl,ht,⟨f,r,e,hF,hr,sr⟩=>by
  obtain⟨n,rfl⟩:∃f,n=f+1:=⟨n-1,by omega⟩
  subst e
  simp only[ak] at hl
  simp only[aB,F.iS]
  by_cases h:bs<N
  ·cases k with
   | zero=>omega
   | succ k=>
    have w2:IntKind.wrap .i64 (2*(bs:Int))=((2*bs:Nat):Int):=by rw[i64 (by omega) (by omega)];omega
    obtain⟨g,f2,e1,e2,e3,e4,e5⟩:=IC fu hf bs h0 f.length f [] r fu 0 ((2*bs:Nat):Int) (N:Int) (az _) (by omega) (by simp;omega) hb ht hF hr (by simp) (by simp) (by simp;omega)
    simp only[dj,cX,bT] at e5
    rw[PL.du (by omega),w2,e5]
    simp only[cond_true,ae]
    have tg:Tm (g++f2):=ht.left.fe e4
    have hm:∃r2,Sd r2 (f2++r)∧(cond (decide ((IntKind.wrap .i64 (((g.length:Nat):Int)+(bs:Int)))<(N:Int)))
      ((F.cD fu ((g.length:Nat):Int) (IntKind.wrap .i64 (((g.length:Nat):Int)+(bs:Int))) (N:Int) (g++(f2++r))).bind fun (r18:List af)=>bif Nat.beq (List.length r18) (List.length (g++(f2++r))) then some r18 else none) (some (g++(f2++r))))=some (g++r2):=by
     have wb:IntKind.wrap .i64 (((g.length:Nat):Int)+(bs:Int))=((g.length+bs:Nat):Int):=by rw[i64 (by omega) (by omega)];omega
     rw[wb]
     rcases e2 with h2 | ⟨h2,h3⟩
     ·subst h2
      refine⟨r,.refl sr,?_⟩
      rw[PL.cA (by simp at e3;omega)];rfl
     ·by_cases hr0:r.length=0
      ·obtain rfl:r=[]:=dg.1 hr0
       refine⟨f2,by simpa using Sd.refl h3,?_⟩
       rw[PL.cA (by simp at hl;omega)];simp
      ·obtain⟨C,c1,c2⟩:=Gz fu f2 r g [] ((g.length:Nat):Int) ((g.length+bs:Nat):Int) (N:Int) (by omega) (by omega) (by omega) (by simp only[ak,cX];omega) (tg.left.gz (tg.right.gz (by simpa using ht.right))) h3 sr rfl (by omega) (by omega)
       have l1:=c1.2.1
       rw[cc,cc] at c2
       rw[PL.du (by omega),c2]
       rw[ak] at l1
       have hq:Nat.beq (g++C).length (g++(f2++r)).length=true:=B9 (by simp only[ak];omega)
       exact⟨C,c1,by simp only[cond_true,ae,hq]⟩
    obtain⟨r2,s1,s2⟩:=hm
    have l2:=s1.2.1
    rw[ak] at l2
    rw[s2]
    simp only[ae]
    have fe:FE (g++r2) (f++r):=by
     have:=(FE.refl g).gz s1.2.2
     refine this.trans ?_
     rw[←aC]
     exact e4.gz (FE.refl r)
    have sb:SB (2*bs) (g++r2):=⟨g,r2,rfl,e1,by rcases e2 with h2 | h2 <;> simp_all <;> omega,s1.1⟩
    rw[show IntKind.wrap .i64 ((bs:Int)*2)=((2*bs:Nat):Int) by rw[i64 (by omega) (by omega)];omega]
    obtain⟨l',x1,x2⟩:=Fo fu hf N hN k (2*bs) (g++r2) n (by omega) (by omega) (by omega) (by omega) (by simp only[ak];omega) (ht.fe fe) sb
    exact⟨l',⟨x1.1,by rw[x1.2.1];simp only[ak];omega,x1.2.2.trans fe⟩,x2⟩
  ·rw[PL.cA (by omega)]
   refine⟨f++r,.refl ?_,rfl⟩
   cases hF with
   | nil=>exact sr
   | @cons A l hA sA hF=>
    simp only[ak] at hl
    obtain rfl:l=[]:=dg.1 (by omega)
    obtain rfl:r=[]:=dg.1 (by omega)
    simpa using sA
theorem P7 (fu:Nat) (hf:5100<fu){l:List af}(hl:l.length≤1500) (ht:Tm l):∃l',Sd l' l∧F.jt fu l=some l':=by
 obtain⟨f,r,e1,e2,e3,e4,e5⟩:=IP fu (by omega) l.length l [] fu 0 20 (l.length:Int) (az _) (by omega) (by simpa using hl) ht rfl rfl (by simp)
 simp only[dj,cX,bT] at e5
 obtain⟨C,c1,c2⟩:=HV fu (by omega) (pre:=f) (A:=r) (post:=[]) (by omega) ((ht.fe e4).right) (a:=((f.length:Nat):Int)) (b:=(l.length:Int)) rfl (by omega)
 rw[cc,cc] at c2
 have l1:=c1.2.1
 have fe:FE (f++C) l:=((FE.refl f).gz c1.2.2).trans e4
 obtain⟨l',x1,x2⟩:=Fo fu hf l.length hl l.length 20 (f++C) fu (az _) (by omega) (by omega) (by omega) (by simp only[ak];omega) (ht.fe fe) ⟨f,C,rfl,e1,by omega,c1.1⟩
 have lx:=x1.2.1
 simp only[ak] at lx
 refine⟨l',⟨x1.1,by omega,x1.2.2.trans fe⟩,?_⟩
 have q1:Nat.beq (f++C).length (f++r).length=true:=B9 (by simp only[ak];omega)
 have q2:Nat.beq l'.length l.length=true:=B9 (by omega)
 have x2:aB (F.iS fu (l.length:Int)) fu (20,f++C)=some l':=x2
 simp only[F.jt,F.lH,e5,ae,c2,q1,x2,q2,cond_true]
end Go.DN.So
