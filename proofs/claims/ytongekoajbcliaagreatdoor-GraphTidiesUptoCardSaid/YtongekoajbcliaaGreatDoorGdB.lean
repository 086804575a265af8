/-
  Graphs: the plain law of their dimensions: all nodes; what they cost.
-/
import Derived.Test.YtongekoajbcliaaGreatDoorGdA
set_option linter.unusedSectionVars false
set_option linter.unusedSimpArgs false
set_option linter.unusedVariables false
set_option maxRecDepth 20000
namespace Go.DN.Pl
open Go.AM Go.PL
noncomputable def jr (fu:Nat) (p:Int) (nodes:List aq):Nat→List (List Int)
 | 0=>[]
 | k+1=>match nodes[k]? with
  | some x=>jr fu p nodes k++[(k7 fu p x (jr fu p nodes k)).1]
  | none=>jr fu p nodes k
noncomputable def oW (fu:Nat) (p:Int) (nodes:List aq) (k:Nat):Int:=match nodes[k]? with
 | some x=>(k7 fu p x (jr fu p nodes k)).2
 | none=>0
def Ov (nodes:List aq):Prop:=nodes.length≤4000000∧∀x∈nodes,LV x
section
variable {fu:Nat}{p:Int}{nodes:List aq}
theorem F0 {k:Nat}{x:aq}(h:nodes[k]?=some x):jr fu p nodes (k+1)=jr fu p nodes k++[(k7 fu p x (jr fu p nodes k)).1]:=by
 simp only[jr,h]
theorem Ds {k:Nat}{x:aq}(h:nodes[k]?=some x):oW fu p nodes k=(k7 fu p x (jr fu p nodes k)).2:=by
 simp only[oW,h]
theorem C8:∀{k:Nat},k≤nodes.length→(jr fu p nodes k).length=k
 | 0,_=>rfl
 | k+1,h=>by
  rw[F0 (ag (show k<nodes.length by omega)),aI,C8 (by omega)];rfl
theorem LO (hn:Ov nodes) (hf:4000000<fu):∀{k:Nat},k≤nodes.length→(∀j,j<k→oW fu p nodes j=0)→KB (jr fu p nodes k)
 | 0,_,_=>fun d hd=>by cases hd
 | k+1,h,hc=>by
  have hx:=ag (show k<nodes.length by omega);have i:=LO hn hf (show k≤nodes.length by omega) fun j hj=>hc j (by omega);have hk:=hc k (by omega);rw[Ds hx] at hk;rw[F0 hx];intro d hd;rcases dl.1 hd with hd | hd
  ·exact i d hd
  ·rw[c8.1 hd];exact Uv fu p _ _ (hn.2 _ (fQ _)) i hf hk
end
theorem Ci {ρ:Type}(c:Nat→Int) (f:Int→ρ):∀l:List Nat,(l.findSome? fun k=>if c k=0 then none else some (f (c k)))=(tu (jN c l)).map f
 | []=>rfl
 | x::r=>by
  rw[dT,xY]
  by_cases h:c x=0
  ·rw[if_pos h,if_pos h];exact Ci c f r
  ·rw[if_neg h,if_neg h,pN h];rfl
noncomputable def ux (fu:Nat) (p:Int) (nodes:List aq):Int:=jN (oW fu p nodes) (List.range nodes.length)
theorem NR {fu:Nat}{p:Int}{nodes:List aq}(h:ux fu p nodes=0):∀k,k<nodes.length→oW fu p nodes k=0:=fun k hk=>xX h k (gx.2 hk)
theorem Ox {ρ:Type}{c:Int}{f:ρ}(h:(if c=0 then(none:Option ρ) else some f)=none):c=0:=by
 by_cases h2:c=0
 ·exact h2
 ·rw[if_neg h2] at h;cases h
noncomputable def vk (fu:Nat) (g:cL):Int×List (List Int):=
 if g.aJ.length>4096 then(5,[]) else
 if ux fu (nV g.aJ:Int) g.aJ≠0 then(ux fu (nV g.aJ:Int) g.aJ,[]) else
 if g.lQ.any (jl g.aJ.length) then(4,[]) else(0,jr fu (nV g.aJ:Int) g.aJ g.aJ.length)
def Yn (g:cL):Prop:=Ov g.aJ∧g.lQ.length≤4000000
theorem Jn {ρ:Type}{body:Int→Option (Int⊕Ex Unit ρ)}(l:List Int) (n:Nat) (v:ρ) (hl:l.length≤4000000) (hbody:∀(k:Nat) a,l[k]?=some a→body (k:Int)=some (if jl n a then .inr (.ret v) else .inl ((k+1:Nat):Int)))
  (hend:body (l.length:Int)=some (.inr (.bJ ()))) (fu:Nat) (hf:4000000<fu):aP body fu 0=some (if l.any (jl n) then .ret v else .bJ ()):=by
 have:=nL (body:=body) l (fun k=>(k:Int)) (fun a=>if jl n a then some (Ex.ret v) else none) (.bJ ()) (fun k a h=>by
  rw[hbody k a h];cases jl n a <;> rfl) hend fu (by omega)
 rw[show((0:Nat):Int)=0 from rfl] at this;rw[this,gP];cases l.any (jl n) <;> rfl
theorem UG (fu:Nat) (g:cL) (hg:Yn g) (hf:4000000<fu):F.vq fu g=some (vk fu g):=by
 obtain⟨hn,hout⟩:=hg;have hn1:=hn.1;unfold F.vq vk
 by_cases h0:g.aJ.length>4096
 ·rw[if_pos h0,ed (show(g.aJ.length:Int)>4096 by omega)];rfl
 ·have h0':g.aJ.length≤4096:=by omega
  rw[if_neg h0,cB (show ¬((g.aJ.length:Int)>4096) by omega),cond_false];have hc:bj ((0:Int)≤0∧0≤(g.aJ.length:Int)∧((24:Nat):Int)*(g.aJ.length:Int)≤281474976710656∧(g.aJ.length:Int)≤9223372036854775807)=some ():=ey ⟨by omega,by omega,by omega,by omega⟩;rw[hc,Jl fu g hn1 hf];simp only[aa];generalize (nV g.aJ:Int)=p;have hL:=gO (body:=F.qR fu g p) g.aJ.length (fun k=>((k:Int),jr fu p g.aJ k)) (fun k=>if oW fu p g.aJ k=0 then none else some (Ex.ret (oW fu p g.aJ k,([]:List (List Int))))) (.bJ (jr fu p g.aJ g.aJ.length))
   (fun k hk hj=>by
    have hx:=ag hk;have hok:=LO (p:=p) hn hf (show k≤g.aJ.length by omega) fun j h=>Ox (hj j h);have hl:=C8 (fu:=fu) (p:=p) (nodes:=g.aJ) (show k≤g.aJ.length by omega);have hnode:=Xd fu p g.aJ[k] (jr fu p g.aJ k) (hn.2 _ (fQ _)) hok (by omega) hf;rw[hl] at hnode;have hb:Nat.beq (List.length (jr fu p g.aJ k)) (List.length (jr fu p g.aJ k))=true:=aW _;have hc:bj ((jr fu p g.aJ k).length+[(k7 fu p g.aJ[k] (jr fu p g.aJ k)).1].length≤maxLen∧((jr fu p g.aJ k).length+[(k7 fu p g.aJ[k] (jr fu p g.aJ k)).1].length)*24≤140737488355328)=some ():=
     cQ (by simp only[ah];omega) (by simp only[ah];omega)
    have he:(⟨(⟨g.aJ[k].Op.Kind,g.aJ[k].Op.au,g.aJ[k].Op.At,g.aJ[k].Op.Lo,g.aJ[k].Op.Hi,g.aJ[k].Op.Step,g.aJ[k].Op.Value⟩:cy),g.aJ[k].cH⟩:aq)=g.aJ[k]:=rfl;simp only[F.qR,dec_lt hx,cond_true,aC hx,aa,he,hnode,hb,Ds hx,F0 hx,hc,aT hk (by omega)]
    by_cases hq:(k7 fu p g.aJ[k] (jr fu p g.aJ k)).2=0
    ·rw[if_pos hq,bne_false hq];rfl
    ·rw[if_neg hq,bne_true hq];rfl)
   (fun _=>by simp only[F.qR,bw,cond_false]) fu (by omega)
  have e0:(((0:Nat):Int),jr fu p g.aJ 0)=((0:Int),List.replicate (Int.toNat 0) ([]:List Int)):=rfl;simp only[e0] at hL;rw[hL,Ci (oW fu p g.aJ) (fun c=>Ex.ret (c,([]:List (List Int))))];rw[show jN (oW fu p g.aJ) (List.range g.aJ.length)=ux fu p g.aJ from rfl]
  by_cases h1:ux fu p g.aJ=0
  ·rw[if_neg (by simpa using h1),h1,uy];simp only[Option.map_none,bd];have hO:=Jn (body:=F.qQ fu g) g.lQ g.aJ.length ((4,[]):Int×List (List Int)) hout (fun k a h=>by
    have hb0:(cond (decide (a<0)) (some true) (some (decide (a≥(g.aJ.length:Int)))))=some (jl g.aJ.length a):=cc _ _;simp only[F.qQ,dec_lt h,cond_true,aC h,aa,hb0,aT (bP h) (by omega)];cases jl g.aJ.length a <;> rfl) (by simp only[F.qQ,bw,cond_false]) fu hf
   rw[hO];cases g.lQ.any (jl g.aJ.length) <;> rfl
  ·rw[if_pos h1,pN h1];rfl
theorem Vz (fu:Nat) (g:cL) (hg:Yn g) (hf:4000000<fu):F.om fu g=some ((vk fu g).2,(vk fu g).1):=by
 obtain⟨hn,hout⟩:=hg;have hn1:=hn.1;unfold F.om vk
 by_cases h0:g.aJ.length>4096
 ·rw[if_pos h0,ed (show(g.aJ.length:Int)>4096 by omega)];rfl
 ·have h0':g.aJ.length≤4096:=by omega
  rw[if_neg h0,cB (show ¬((g.aJ.length:Int)>4096) by omega),cond_false];have hpar:=FY fu g hn1 hf
  revert hpar
  generalize (nV g.aJ:Int)=p;intro hpar;have hL:=gO (body:=F.lZ fu g) g.aJ.length (fun k=>((k:Int),jr fu p g.aJ k)) (fun k=>if oW fu p g.aJ k=0 then none else some (Ex.ret (([]:List (List Int)),oW fu p g.aJ k))) (.bJ (jr fu p g.aJ g.aJ.length))
   (fun k hk hj=>by
    have hx:=ag hk;have hok:=LO (p:=p) hn hf (show k≤g.aJ.length by omega) fun j h=>Ox (hj j h);have hl:=C8 (fu:=fu) (p:=p) (nodes:=g.aJ) (show k≤g.aJ.length by omega);have hx0:=hn.2 _ (fQ hk);rw[Ds hx,F0 hx];generalize hxe:g.aJ[k]=x at hx hx0;generalize hoe:jr fu p g.aJ k=out at hok hl;have hA:=O8 (body:=F.jO fu (k:Int) out x) out x.cH (.ret (.ret (.inr (.ret (([]:List (List Int)),10))))) .bJ hx0.2 (fun j a m h hm=>by
      have hla:=hx0.2;have hk:=bP h;have hb0:(cond (decide (a<0)) (some true) (some (decide (a≥(k:Int)))))=some (jl out.length a):=by rw[hl];exact cc _ _
      refine⟨fun hb=>?_,fun hb d hd=>?_⟩
      ·simp only[F.jO,dec_lt h,cond_true,aC h,aa,hb0,hb]
      ·have hc:bj (m.length+[d].length≤maxLen∧(m.length+[d].length)*24≤140737488355328)=some ():=cQ (by simp only[ah];omega) (by simp only[ah];omega);simp only[F.jO,dec_lt h,cond_true,aC h,aa,hb0,hb,cond_false,hd,hc,aT hk (by omega)]) (fun m=>by simp only[F.jO,bw,cond_false]) fu hf
    simp only[F.lZ,dec_lt hx,cond_true,aC hx,aa,hA];obtain⟨_,d1,_⟩:=Rk fu x.Op (uB out x.cH) hx0.1 (Io hok hx0.2) hf;have hcA:∀d:List Int,bj (out.length+[d].length≤maxLen∧(out.length+[d].length)*24≤140737488355328)=some ():=fun d=>cQ (by simp only[ah];omega) (by simp only[ah];omega);unfold k7;cases hb:x.cH.any (jl out.length) with
    | true=>rfl
    | false=>
     simp only[if_neg iQ,bd];unfold tV;cases hkd:(x.Op.Kind==1) with
     | false=>
      have hkn:(x.Op.Kind !=1)=true:=by unfold bne;rw[hkd];rfl
      simp only[cond_false,d1,aa,hkn,if_pos]
      by_cases hq:(DS fu x.Op (uB out x.cH)).2=0
      ·rw[bne_false hq,if_pos hq];simp only[cond_false,hcA,aa,aT hk (show g.aJ.length≤9223372036854775807 by omega)]
      ·rw[bne_true hq,if_neg hq];rfl
     | true=>
      have hkn:(x.Op.Kind !=1)=false:=by unfold bne;rw[hkd];rfl
      have hb1:=Nu p x.Op k;simp only[cond_true,hpar,aa,hb1,hkn,if_neg iQ,hl];cases hp:Hm p x.Op k with
      | true=>rfl
      | false=>
       simp only[cond_false,if_neg iQ];cases hq:decide ((x.cH.length:Int)>0) with
       | true=>rfl
       | false=>
        have hd:x.Op.au.length≤1048576:=hx0.1.1;simp only[cond_false,if_neg iQ,k5 fu x.Op.au (by omega) hf,aa]
        by_cases hz:(cn x.Op.au).2=0
        ·rw[bne_false hz,if_pos hz];simp only[←hl,cond_false,hcA,aa];simp only[hl,aT hk (show g.aJ.length≤9223372036854775807 by omega)]
        ·rw[bne_true hz,if_neg hz];rfl)
   (fun _=>by simp only[F.lZ,bw,cond_false]) fu (by omega)
  have e0:(((0:Nat):Int),jr fu p g.aJ 0)=((0:Int),([]:List (List Int))):=rfl;simp only[e0] at hL;rw[hL,Ci (oW fu p g.aJ) (fun c=>Ex.ret (([]:List (List Int)),c))];rw[show jN (oW fu p g.aJ) (List.range g.aJ.length)=ux fu p g.aJ from rfl]
  by_cases h1:ux fu p g.aJ=0
  ·rw[if_neg (by simpa using h1),h1,uy];simp only[Option.map_none,bd];have hO:=Jn (body:=F.lY fu g) g.lQ g.aJ.length (([],4):List (List Int)×Int) hout (fun k a h=>by
    have hb0:(cond (decide (a<0)) (some true) (some (decide (a≥(g.aJ.length:Int)))))=some (jl g.aJ.length a):=cc _ _;simp only[F.lY,dec_lt h,cond_true,aC h,aa,hb0,aT (bP h) (by omega)];cases jl g.aJ.length a <;> rfl) (by simp only[F.lY,bw,cond_false]) fu hf
   rw[hO];cases g.lQ.any (jl g.aJ.length) <;> rfl
  ·rw[if_pos h1,pN h1];rfl
end Go.DN.Pl
