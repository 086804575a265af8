/-
  Graphs: tidying, as the program does it.
-/
import Derived.Test.YtongekoajbcliaaGreatDoorTdA
set_option linter.unusedSimpArgs false
set_option linter.unusedVariables false
set_option maxRecDepth 20000
namespace Go.DN.Pl
open Go.AM Go.PL
def LU (op:cy):Prop:=A3 op.Kind∧nW op.au∧nW op.At∧nW op.Lo∧nW op.Hi∧nW op.Step∧A3 op.Value
theorem BY {op:cy}(h:LU op):vZ op:=⟨h.2.1.1,h.2.2.1.1,h.2.2.2.1.1,h.2.2.2.2.1.1,h.2.2.2.2.2.1.1⟩
theorem LW:nW []:=⟨iV _,fun n h=>by cases h⟩
theorem uo {l:List Int}(b:Bool) (h:nW l):nW (sn l b):=by
 unfold sn;split
 ·exact h
 ·exact LW
theorem Jp {op:cy}{args:List Int}(h:LU op) (ha:nW args):Z1 ⟨dP op,args⟩:=by
 obtain⟨h0,h1,h2,h3,h4,h5,h6⟩:=h;refine⟨h0,fun l hl=>?_,?_⟩
 ·simp only[hJ,dP,bf,List.not_mem_nil,or_false] at hl;rcases hl with rfl | rfl | rfl | rfl | rfl | rfl
  ·exact uo _ h1
  ·exact uo _ h2
  ·exact uo _ h3
  ·exact uo _ h4
  ·exact uo _ h5
  ·exact ha
 ·show A3 (if op.Kind==2 then op.Value else 0);split
  ·exact h6
  ·exact⟨by omega,by omega⟩
theorem Zg (fu:Nat) (l:List Int):F.sZ fu l=F.cS fu l:=rfl
theorem OI (st:List aq) (x:aq) (h:st.length≤1000000):IntKind.i64.wrap ((((st++[x]).length:Nat):Int)-1)=(st.length:Int):=by
 rw[aI,ah,i64 (by omega) (by omega)];omega
theorem X0 (fu:Nat) (op:cy) (args:List Int) (st:List aq) (outs:List Int) (ho:LU op) (ha:nW args) (hst:st.length≤1000000) (hf:4000000<fu):
  F.nh fu op st.isEmpty args st outs ⟨kn st⟩=some ((st.findIdx (dn ⟨dP op,args⟩):Int),(qs st ⟨dP op,args⟩).isEmpty,args,qs st ⟨dP op,args⟩,outs,⟨kn (qs st ⟨dP op,args⟩)⟩):=by
 unfold F.nh;rw[LK fu op (BY ho)];simp only[aa,Zg];rw[kP fu args (by have:=ha.1;omega)];simp only[aa];rw[show(⟨(⟨(dP op).Kind,(dP op).au,(dP op).At,(dP op).Lo,(dP op).Hi,(dP op).Step,(dP op).Value⟩:cy),args⟩:aq)=⟨dP op,args⟩ from rfl];rw[SG fu _ (Jp ho ha) hf];simp only[aa,SE];generalize (⟨dP op,args⟩:aq)=x;cases hx:st.any (dn x) with
 | true=>
  rw[Ho hx];simp only[cond_false,cond_true,SF hx,qs,hx,if_true,Ho hx]
 | false=>
  have e1:(bif st.isEmpty then false else false)=false:=by cases st.isEmpty <;> rfl
  have e2:cond st.isEmpty ((bj (st.isEmpty=true)).bind fun _=>some (false,(⟨[]⟩:cR))) (some (st.isEmpty,(⟨kn st⟩:cR)))=some (false,⟨kn st⟩):=by
   cases st with
   | nil=>rfl
   | cons y r=>rfl
  rw[e1,cond_false,e2];simp only[aa,dK];rw[cQ (by simp only[ah];omega) (by simp only[ah];omega)];simp only[aa];rw[VF];simp only[aa,OI st x hst,SD hx,sA hx,qs,hx];have:(st++[x]).isEmpty=false:=by cases st <;> rfl
  rw[if_neg (by decide),this]
theorem X1 (fu:Nat) (op:cy) (args:List Int) (st:List aq) (outs:List Int) (ho:LU op) (ha:nW args) (hst:st.length≤1000000) (hf:4000000<fu):
  F.ni fu op args st.isEmpty st outs ⟨kn st⟩=some ((st.findIdx (dn ⟨dP op,args⟩):Int),(qs st ⟨dP op,args⟩).isEmpty,qs st ⟨dP op,args⟩,outs,⟨kn (qs st ⟨dP op,args⟩)⟩):=by
 unfold F.ni;rw[LK fu op (BY ho)];simp only[aa];rw[kP fu args (by have:=ha.1;omega)];simp only[aa];rw[show(⟨(⟨(dP op).Kind,(dP op).au,(dP op).At,(dP op).Lo,(dP op).Hi,(dP op).Step,(dP op).Value⟩:cy),args⟩:aq)=⟨dP op,args⟩ from rfl];rw[SG fu _ (Jp ho ha) hf];simp only[aa,SE];generalize (⟨dP op,args⟩:aq)=x;cases hx:st.any (dn x) with
 | true=>
  rw[Ho hx];simp only[cond_false,cond_true,SF hx,qs,hx,if_true,Ho hx]
 | false=>
  have e1:(bif st.isEmpty then false else false)=false:=by cases st.isEmpty <;> rfl
  have e2:cond st.isEmpty ((bj (st.isEmpty=true)).bind fun _=>some (false,(⟨[]⟩:cR))) (some (st.isEmpty,(⟨kn st⟩:cR)))=some (false,⟨kn st⟩):=by
   cases st with
   | nil=>rfl
   | cons y r=>rfl
  rw[e1,cond_false,e2];simp only[aa,dK];rw[cQ (by simp only[ah];omega) (by simp only[ah];omega)];simp only[aa];rw[VF];simp only[aa,OI st x hst,SD hx,sA hx,qs,hx];have:(st++[x]).isEmpty=false:=by cases st <;> rfl
  rw[if_neg (by decide),this]
theorem EE (nodes:List aq){k:Nat}(hk:0<k):∀(A d:List Int),∀a∈A,a∈A.foldl (fun d a=>whole nodes k a d) d
 | [],_,a,h=>by cases h
 | x::r,d,a,h=>by
  rw[cz];rcases bf.1 h with rfl | h
  ·obtain⟨t,ht⟩:=EX (f:=fun d a=>whole nodes k a d) (fun d a=>wY nodes k a d) r (whole nodes k a d);rw[ht];exact bY _ (Rm nodes hk a d)
  ·exact EE nodes hk r _ a h
theorem tp {nodes:List aq}(hR:Rt nodes){k:Nat}{i:Int}(hi:i≤(nodes.length:Int)) (hk:i≤(k:Int)):∀(A d:List Int),(∀a∈A,0≤a∧a<i)→xf nodes.length d→
  xf nodes.length (A.foldl (fun d a=>whole nodes k a d) d)∧∀x∈A.foldl (fun d a=>whole nodes k a d) d,x∈d∨x<i
 | [],d,_,h=>⟨h,fun x hx=>.inl hx⟩
 | a::r,d,hl,h=>by
  have ha:=hl a ar;obtain⟨q1,q2⟩:=I3 hR k a d ha.1 (by omega) (by omega) h;obtain⟨q3,q4⟩:=tp hR hi hk r (whole nodes k a d) (fun b hb=>hl b (ap _ hb)) q1;rw[cz];refine⟨q3,fun x hx=>?_⟩;rcases q4 x hx with h4 | h4
  ·rcases q2 x h4 with h5 | h5
   ·exact .inl h5
   ·exact .inr (by omega)
  ·exact .inr h4
structure Jo (nodes:List aq):Prop where
 len:nodes.length≤100000
 rt:Rt nodes
 op:∀i,0≤i→i<(nodes.length:Int)→LU (nd nodes i).Op∧(nd nodes i).cH.length≤1048576
theorem L1 {nodes:List aq}{A l l2:List Int}(h:∀a∈A,a∈l) (t:List Int) (e:l2=l++t):A.map (num nodes l2)=A.map (num nodes l):=by
 subst e;exact fh fun a ha=>L0 t (h a ha)
theorem Us (nodes:List aq){A l:List Int}(hA:A.length≤1048576) (hl:l.length≤100000):nW (A.map (num nodes l)):=by
 refine⟨by rw[aN];exact hA,fun n hn=>?_⟩;obtain⟨a,_,rfl⟩:=fc.1 hn;have:=Xa nodes l a;exact⟨by omega,by omega⟩
theorem Oy {nodes:List aq}(hT:Jo nodes) (outs:List Int):∀(k:Nat) (i:Int) (l:List Int) (fu:Nat),0≤i→i<(nodes.length:Int)→i<(k:Int)→xf nodes.length l→4000000+k<fu→
  F.fx fu i nodes ⟨(runT nodes l).2⟩ (runT nodes l).1.isEmpty (runT nodes l).1 outs ⟨kn (runT nodes l).1⟩=
   some (num nodes (whole nodes k i l) i,nodes,⟨(runT nodes (whole nodes k i l)).2⟩,(runT nodes (whole nodes k i l)).1.isEmpty,(runT nodes (whole nodes k i l)).1,outs,⟨kn (runT nodes (whole nodes k i l)).1⟩)
 | 0,i,l,fu,h0,h1,hk,hl,hf=>by omega
 | k+1,i,l,0,h0,h1,hk,hl,hf=>by omega
 | k+1,i,l,fu+1,h0,h1,hk,hl,hf=>by
  show F.rb (F.fx fu) (fu+1) i nodes _ _ _ outs _=_;unfold F.rb;dsimp only
  by_cases hi:i∈l
  ·rw[H7.2 hi,cond_true];have:whole nodes (k+1) i l=l:=by unfold whole;rw[if_pos hi]
   rw[this];rfl
  ·have hno:nO (runT nodes l).2 i=false:=by
    cases h:nO (runT nodes l).2 i with
    | true=>exact absurd (H7.1 h) hi
    | false=>rfl
   have hlen:=hT.len;obtain⟨n1,n2,n3⟩:=F9 h0 h1;obtain⟨o1,o2⟩:=hT.op i h0 h1;have hA:=hT.rt i h0 h1;rw[hno,cond_false,n1];simp only[aa];generalize hAe:(nd nodes i).cH=A at hA o2;have hsub:∀(j:Nat),∀a∈A.take j,0≤a∧a<i:=fun j a ha=>hA a (fA ha);have hnew:=fun j=>tp hT.rt (k:=k) (i:=i) (by omega) (by omega) (A.take j) l (hsub j) hl;have hL:=fw (body:=F.ng (F.fx fu) (fu+1) (nd nodes i)) A
    (fun j=>((j:Int),nodes,(⟨(runT nodes ((A.take j).foldl (fun d a=>whole nodes k a d) l)).2⟩:dR),(runT nodes ((A.take j).foldl (fun d a=>whole nodes k a d) l)).1.isEmpty,(runT nodes ((A.take j).foldl (fun d a=>whole nodes k a d) l)).1,outs,(⟨kn (runT nodes ((A.take j).foldl (fun d a=>whole nodes k a d) l)).1⟩:cR),(A.take j).map (num nodes ((A.take j).foldl (fun d a=>whole nodes k a d) l))))
    (nodes,(⟨(runT nodes (A.foldl (fun d a=>whole nodes k a d) l)).2⟩:dR),(runT nodes (A.foldl (fun d a=>whole nodes k a d) l)).1.isEmpty,(runT nodes (A.foldl (fun d a=>whole nodes k a d) l)).1,outs,(⟨kn (runT nodes (A.foldl (fun d a=>whole nodes k a d) l)).1⟩:cR),A.map (num nodes (A.foldl (fun d a=>whole nodes k a d) l)))
    (fun j a ha=>by
     have ham:=hA a (aj ha);have hj:=bP ha;obtain⟨d1,_⟩:=hnew j;have e:(A.take (j+1)).foldl (fun d a=>whole nodes k a d) l=whole nodes k a ((A.take j).foldl (fun d a=>whole nodes k a d) l):=by
      rw[take_succ ha,eo];rfl
     have em:∀b∈A.take j,b∈(A.take j).foldl (fun d a=>whole nodes k a d) l:=EE nodes (by omega) (A.take j) l;rw[e];generalize (A.take j).foldl (fun d a=>whole nodes k a d) l=lj at d1 em;obtain⟨t,ht⟩:=wY nodes k a lj;unfold F.ng;rw[hAe];simp only[dec_lt ha,cond_true,aC ha,aa];rw[Oy hT outs k a lj fu ham.1 (by omega) (by omega) d1 (by omega)];simp only[aa,aW,cond_true];have hlj:((A.take j).map (num nodes lj)).length=j:=by rw[aN];exact pE ha
     rw[cQ (by rw[hlj];simp only[ah];omega) (by rw[hlj];simp only[ah];omega)];simp only[aa,aT hj (by omega)];rw[take_succ ha,dW,L1 em t ht];rfl)
    (by
     unfold F.ng;rw[hAe];simp only[bw,cond_false,bK]) (fu+1) (by omega)
   simp only[dA,eZ,rN] at hL;rw[show((0:Nat):Int)=0 from rfl] at hL;rw[hL];simp only[aa];rw[n1];simp only[aa];have hw:whole nodes (k+1) i l=A.foldl (fun d a=>whole nodes k a d) l++[i]:=by
    rw[whole,if_neg hi,hAe]
   obtain⟨d1,d2⟩:=hnew A.length;rw[bK] at d1 d2;rw[hw];generalize hl2:A.foldl (fun d a=>whole nodes k a d) l=l2 at d1 d2;have hi2:i∉l2:=fun h=>by
    rcases d2 i h with h | h
    ·exact hi h
    ·omega
   have hlen2:=yI d1;have hst:=zy nodes l2;rw[X0 (fu+1) (nd nodes i).Op (A.map (num nodes l2)) (runT nodes l2).1 outs o1 (Us nodes o2 (by omega)) (by omega) (by omega)];simp only[aa,aW,cond_true];have hx:(⟨dP (nd nodes i).Op,A.map (num nodes l2)⟩:aq)=li nodes (runT nodes l2).2 i:=by
    unfold li num;rw[hAe]
   have hk2:i∉(runT nodes l2).2.map (·.Key):=by rw[ru];exact hi2
   rw[hx,LH hk2];have hr:runT nodes (l2++[i])=(qs (runT nodes l2).1 (li nodes (runT nodes l2).2 i),(runT nodes l2).2++[⟨i,((runT nodes l2).1.findIdx (dn (li nodes (runT nodes l2).2 i)):Int)⟩]):=zz nodes l2 i;have hn:num nodes (l2++[i]) i=((runT nodes l2).1.findIdx (dn (li nodes (runT nodes l2).2 i)):Int):=by
    unfold num;rw[hr];exact JD hk2
   rw[hn,hr]
def gn (n:Nat):List Int:=(List.range n).map fun (i:Nat)=>(i:Int)
theorem B9 (n:Nat):gn (n+1)=gn n++[(n:Int)]:=by
 unfold gn;rw[qI,dW];rfl
theorem ER {n:Nat}{x:Int}:x∈gn n↔0≤x∧x<(n:Int):=by
 unfold gn;rw[fc];constructor
 ·rintro⟨i,hi,rfl⟩;have:=gx.1 hi;omega
 ·intro h;exact⟨x.toNat,gx.2 (by omega),by omega⟩
theorem H4 {p n:Nat}(h:p≤n):xf n (gn p):=by
 refine⟨?_,fun x hx=>?_⟩
 ·induction p with
  | zero=>exact List.nodup_nil
  | succ p ih=>
   rw[B9];refine List.nodup_append.2 ⟨ih (by omega),by simp,fun x hx y hy e=>?_⟩;rw[c8.1 hy] at e;subst e;have:=(ER.1 hx).2;omega
 ·have:=ER.1 hx;omega
theorem ES (p:Nat):(gn p).length=p:=by unfold gn;simp
def fT (nodes:List aq) (p:Nat) (outs:List Int):List Int:=outs.foldl (fun d o=>whole nodes nodes.length o d) (gn p)
def CY (nodes:List aq) (p:Nat) (outs:List Int):cL:=⟨(runT nodes (fT nodes p outs)).1,outs.map (num nodes (fT nodes p outs))⟩
theorem KG (fu:Nat) (m22:List aq) (m23:dR) (m24:Bool) (m25:List aq) (m26:cR) (m27:List Int) (x28:Int):F.jG fu m22 m23 m24 m25 m26 m27 x28=F.cV fu m22 m23 m24 m25 m26 m27 x28∧F.qP fu m22 m23 m24 m25 m26 m27 x28=F.cV fu m22 m23 m24 m25 m26 m27 x28∧
  F.oy fu m22 m23 m24 m25 m26 m27 x28=F.cV fu m22 m23 m24 m25 m26 m27 x28∧F.qO fu m22 m23 m24 m25 m26 m27 x28=F.cV fu m22 m23 m24 m25 m26 m27 x28:=by
 unfold F.jG F.qP F.oy F.qO;simp only[dG,dK];exact⟨rfl,rfl,rfl,rfl⟩
theorem WG (fu:Nat){nodes:List aq}{p:Nat}{outs:List Int}(hT:Jo nodes) (hp:p≤nodes.length) (hP:∀i,0≤i→i<(p:Int)→(nd nodes i).cH=[]) (ho:∀o∈outs,0≤o∧o<(nodes.length:Int)) (hol:outs.length≤4000000) (hf:4200000<fu):
  F.vo fu nodes (p:Int) outs=some (CY nodes p outs):=by
 have hlen:=hT.len;have h1:=fw (body:=F.oz fu nodes (p:Int)) (List.range p)
  (fun j=>((j:Int),(runT nodes (gn j)).1.isEmpty,(⟨(runT nodes (gn j)).2⟩:dR),(runT nodes (gn j)).1,([]:List Int),(⟨kn (runT nodes (gn j)).1⟩:cR)))
  ((runT nodes (gn p)).1.isEmpty,(⟨(runT nodes (gn p)).2⟩:dR),(runT nodes (gn p)).1,([]:List Int),(⟨kn (runT nodes (gn p)).1⟩:cR)) (fun j x hx=>by
   have hj:j<p:=by have:=bP hx;rw[jm] at this;exact this
   obtain⟨n1,n2,n3⟩:=F9 (nodes:=nodes) (i:=(j:Int)) (by omega) (by omega);obtain⟨o1,o2⟩:=hT.op (j:Int) (by omega) (by omega);have hst:=zy nodes (gn j);rw[ES] at hst;have hd:decide ((j:Int)<(p:Int))=true:=by simp;omega
   unfold F.oz;simp only[hd,cond_true];rw[n1];simp only[aa];rw[X1 fu _ [] _ [] o1 LW (by omega) (by omega)];simp only[aa,aW,cond_true,aT hj (by omega)];have hx:(⟨dP (nd nodes (j:Int)).Op,[]⟩:aq)=li nodes (runT nodes (gn j)).2 (j:Int):=by
    unfold li;rw[hP (j:Int) (by omega) (by omega)];rfl
   have hk2:(j:Int)∉(runT nodes (gn j)).2.map (·.Key):=by
    rw[ru];intro h;have:=(ER.1 h).2;omega
   rw[hx,LH hk2,B9,zz];rfl) (by
   have hd:decide ((p:Int)<(p:Int))=false:=by simp
   unfold F.oz;simp only[jm,hd,cond_false]) fu (by rw[jm];omega)
 have h1:aP (F.oz fu nodes (p:Int)) fu (0,true,(⟨[]⟩:dR),([]:List aq),([]:List Int),(⟨[]⟩:cR))=_:=h1;have hnew:=fun j=>tp hT.rt (k:=nodes.length) (i:=(nodes.length:Int)) (iY _) (iY _) (outs.take j) (gn p) (fun a ha=>ho a (fA ha)) (H4 hp);have h2:=fw (body:=F.ox fu outs) outs
  (fun j=>((j:Int),nodes,(⟨(runT nodes (fT nodes p (outs.take j))).2⟩:dR),(runT nodes (fT nodes p (outs.take j))).1.isEmpty,(runT nodes (fT nodes p (outs.take j))).1,(⟨kn (runT nodes (fT nodes p (outs.take j))).1⟩:cR),(outs.take j).map (num nodes (fT nodes p (outs.take j)))))
  (nodes,(⟨(runT nodes (fT nodes p outs)).2⟩:dR),(runT nodes (fT nodes p outs)).1.isEmpty,(runT nodes (fT nodes p outs)).1,(⟨kn (runT nodes (fT nodes p outs)).1⟩:cR),outs.map (num nodes (fT nodes p outs)))
  (fun j o hoj=>by
   have ho':=ho o (aj hoj);have hj:=bP hoj;obtain⟨d1,_⟩:=hnew j;have e:fT nodes p (outs.take (j+1))=whole nodes nodes.length o (fT nodes p (outs.take j)):=by
    unfold fT;rw[take_succ hoj,eo];rfl
   have em:∀b∈outs.take j,b∈fT nodes p (outs.take j):=EE nodes (by omega) (outs.take j) (gn p);have d1:xf nodes.length (fT nodes p (outs.take j)):=d1;rw[e];generalize fT nodes p (outs.take j)=lj at d1 em;obtain⟨t,ht⟩:=wY nodes nodes.length o lj;unfold F.ox;simp only[dec_lt hoj,cond_true,aC hoj,aa,(KG _ _ _ _ _ _ _ _).1,(KG _ _ _ _ _ _ _ _).2.1,(KG _ _ _ _ _ _ _ _).2.2.1,(KG _ _ _ _ _ _ _ _).2.2.2,dG,dK];rw[show ∀q,cG (F.cV fu nodes ⟨(runT nodes lj).2⟩ (runT nodes lj).1.isEmpty (runT nodes lj).1 ⟨kn (runT nodes lj).1⟩ ((outs.take j).map (num nodes lj)) o) q=cG (F.cV fu nodes ⟨(runT nodes lj).2⟩ (runT nodes lj).1.isEmpty (runT nodes lj).1 ⟨kn (runT nodes lj).1⟩ ((outs.take j).map (num nodes lj)) o) q from fun _=>rfl];have hq:F.cV fu nodes ⟨(runT nodes lj).2⟩ (runT nodes lj).1.isEmpty (runT nodes lj).1 ⟨kn (runT nodes lj).1⟩ ((outs.take j).map (num nodes lj)) o=some (nodes,⟨(runT nodes (whole nodes nodes.length o lj)).2⟩,(runT nodes (whole nodes nodes.length o lj)).1.isEmpty,(runT nodes (whole nodes nodes.length o lj)).1,⟨kn (runT nodes (whole nodes nodes.length o lj)).1⟩,(outs.take (j+1)).map (num nodes (whole nodes nodes.length o lj))):=by
    unfold F.cV;rw[Oy hT _ nodes.length o lj fu ho'.1 ho'.2 ho'.2 d1 (by omega)];have hlj:((outs.take j).map (num nodes lj)).length=j:=by rw[aN];exact pE hoj
    simp only[aa,aW,cond_true];rw[cQ (by rw[hlj];simp only[ah];omega) (by rw[hlj];simp only[ah];omega)];simp only[aa];rw[take_succ hoj,dW,L1 em t ht];rfl
   have hq2:((F.fx fu o nodes ⟨(runT nodes lj).2⟩ (runT nodes lj).1.isEmpty (runT nodes lj).1 ((outs.take j).map (num nodes lj)) ⟨kn (runT nodes lj).1⟩).bind fun ((r29,r30,r31,r32,r33,r34,r35):Int×(List aq)×dR×Bool×(List aq)×(List Int)×cR)=>
    bif Nat.beq (List.length r34) (List.length ((outs.take j).map (num nodes lj))) then F.cU fu r29 r30 r31 r32 r33 r34 r35 else none)=F.cV fu nodes ⟨(runT nodes lj).2⟩ (runT nodes lj).1.isEmpty (runT nodes lj).1 ⟨kn (runT nodes lj).1⟩ ((outs.take j).map (num nodes lj)) o:=rfl
   rw[hq2];simp only[dG];rw[hq];simp only[aa,aT hj (by omega)])
  (by
   unfold F.ox;simp only[bw,cond_false,bK]) fu (by omega)
 have h2:aP (F.ox fu outs) fu (0,nodes,(⟨(runT nodes (gn p)).2⟩:dR),(runT nodes (gn p)).1.isEmpty,(runT nodes (gn p)).1,(⟨kn (runT nodes (gn p)).1⟩:cR),([]:List Int))=_:=h2;unfold F.vo;rw[h1];simp only[aa];rw[h2];rfl
end Go.DN.Pl
