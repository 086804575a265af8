/-
  Sense, names: the plain law: the reference's Wrong.
-/
import Derived.Test.YtmhbeopldeccmaaDoorWnC
set_option maxRecDepth 20000
set_option linter.unusedVariables false
set_option linter.unusedSimpArgs false
namespace Go.DN
open Go.AM
theorem Jc {fu:Nat}{l:List ByteArray}{n:ByteArray}(hf:l.length<fu) (hl:l.length≤4194304):F.kG fu l n=some (l.any fun x=>cr x n):=by
 unfold F.kG
 rw[uw (σ:=Unit) l (fun _ i=>(false,i)) (fun _ x=>if cr x n=true then some (.inr (.ret true)) else some (.inl ())) (fun _=>.bw ()) ?_ ?_ fu hf ()]
 ·have key:∀l:List ByteArray,pb (σ:=Unit) (ρ:=Ex Unit Bool) (fun _ x=>if cr x n=true then some (.inr (.ret true)) else some (.inl ())) (fun _=>.bw ()) () l=some (if (l.any fun x=>cr x n)=true then .ret true else .bw ()):=by
   intro l
   induction l with
   | nil=>rfl
   | cons x r ih=>
    simp only[pb,cG]
    by_cases hq:cr x n=true
    ·simp only[hq,if_true,Bool.true_or]
    ·simp only[gE.2 hq,fx,gV,if_false];exact ih
  rw[key]
  by_cases hq:(l.any fun x=>cr x n)=true
  ·rw[if_pos hq,hq];rfl
  ·rw[if_neg hq,gE.2 hq];rfl
 ·intro s k x hx
  have hk:=dR hx
  have e:(x.toList==n.toList)=cr x n:=rfl
  simp only[F.oJ,dec_lt hx,cond_true,cc hx,aa,gF hk (show l.length≤9223372036854775807 by omega),e]
  cases cr x n <;> rfl
 ·intro s
  simp only[F.oJ,dj,cond_false]
theorem F6 {fu:Nat}{p:List bB}{n:ByteArray}(hf:p.length<fu) (hl:p.length≤1048576):∃i,F.jD fu p n=some i∧(match ir p n with | none=>i=-1 | some f=>∃k:Nat,i=(k:Int)∧p[k]?=some f):=by
 obtain⟨r,h1,h2⟩:=dh (body:=F.jt fu p n) p (fun k st=>st=(0,(k:Int))∧ir p n=ir (p.drop k) n) (fun r=>match r with | .bw _=>ir p n=none | .ret i=>∃(k:Nat) (f:bB),i=(k:Int)∧p[k]?=some f∧ir p n=some f) (by
  rintro k x st hx ⟨rfl,hS⟩
  have hk:=dR hx
  have hdr:p.drop k=x::p.drop (k+1):=by
   rw[b9 hk]
   congr 1
   exact dx ((ao hk).symm.trans hx)
  have e:(x.Name.toList==n.toList)=cr x.Name n:=rfl
  rw[hdr] at hS
  unfold ir at hS⊢
  rw[mG] at hS
  cases hq:cr x.Name n with
  | true=>
   rw[hq] at hS
   exact .inr ⟨.ret (k:Int),by simp only[F.jt,dec_lt hx,cond_true,cc hx,aa,e,hq],k,x,rfl,hx,hS⟩
  | false=>
   rw[hq] at hS
   exact .inl ⟨(0,((k+1:Nat):Int)),by simp only[F.jt,dec_lt hx,cond_true,cc hx,aa,e,hq,cond_false,gF hk (show p.length≤9223372036854775807 by omega)],rfl,hS⟩) (by
  rintro st ⟨rfl,hS⟩
  rw[jx] at hS
  exact⟨.bw (),by simp only[F.jt,dj,cond_false],hS⟩) p.length 0 fu (0,0) (by omega) (by omega) hf ⟨rfl,rfl⟩
 unfold F.jD
 rw[h1]
 cases r with
 | bw _=>exact⟨-1,rfl,by have h2:ir p n=none:=h2;rw[h2]⟩
 | ret i=>
  obtain⟨k,f,rfl,h3,h4⟩:=h2
  exact⟨(k:Int),rfl,by rw[h4];exact⟨k,rfl,h3⟩⟩
def CT (l:List ByteArray) (D:lL):Prop:=∀n,cr n (ByteArray.mk #[])=false→(l.any fun x=>cr x n)=D n
theorem Lo {fu:Nat}{t:ai}{dims:List ByteArray}{D:lL}(hD:CT dims D) (hdl:dims.length<fu) (hdl2:dims.length≤4194304) (hf:t.Shape.length<fu) (hl:t.Shape.length≤1048576):
  aW (F.j4 fu t dims) fu (0,0)=some (if pG D t.Shape=true then .bw () else .ret 8):=by
 rw[uw (σ:=Unit) t.Shape (fun _ i=>(0,i)) (fun _ d=>if (cr d.Name (ByteArray.mk #[])||D d.Name)=true then some (.inl ()) else some (.inr (.ret 8))) (fun _=>.bw ()) ?_ ?_ fu hf ()]
 ·unfold pG
  generalize t.Shape=l
  induction l with
  | nil=>rfl
  | cons d r ih=>
   simp only[pb,List.all_cons]
   by_cases hq:(cr d.Name (ByteArray.mk #[])||D d.Name)=true
   ·simp only[hq,if_true,lD];exact ih
   ·simp only[gE.2 hq,Bool.false_and,gV,if_false]
 ·intro s k x hx
  have hk:=dR hx
  have e:(x.Name.toList==(ByteArray.mk #[]).toList)=cr x.Name (ByteArray.mk #[]):=rfl
  simp only[F.j4,dec_lt hx,cond_true,cc hx,aa,gF hk (show t.Shape.length≤9223372036854775807 by omega),e,Jc hdl hdl2]
  cases he:cr x.Name (ByteArray.mk #[]) with
  | true=>rfl
  | false=>
   rw[hD x.Name he]
   cases D x.Name <;> rfl
 ·intro s
  simp only[F.j4,dj,cond_false]
theorem Lu {fu:Nat}{t:ai}{dims:List ByteArray}{q:List bB}{D:lL}(hD:CT dims D) (hdl:dims.length<fu) (hdl2:dims.length≤4194304) (hq:q.length<fu) (hq2:q.length≤1048576) (hf:t.Shape.length<fu) (hl:t.Shape.length≤1048576):
  F.lB fu t dims q=some (ov D (Am q) t):=by
 unfold F.lB ov
 rw[Kt]
 simp only[aa]
 have hl0:decide ((t.aE.length:Int)>0)=decide (t.aE.length≠0):=by rw[decide_eq_decide];omega
 by_cases hk:(cY t.Name).Kind=0
 ·obtain⟨i,h1,h2⟩:=F6 (n:=t.Name) hq hq2
  have e0:((cY t.Name).Kind==0)=true:=by simpa using hk
  rw[e0,cond_true,if_pos hk,h1]
  simp only[aa,hl0]
  unfold Am
  cases hfs:ir q t.Name with
  | none=>
   rw[hfs] at h2
   have h2:i=-1:=h2
   subst h2
   rfl
  | some f=>
   rw[hfs] at h2
   obtain⟨k,rfl,h3⟩:=h2
   have:decide ((k:Int)<0)=false:=decide_eq_false (by omega)
   rw[this,cond_false]
   simp only[bY,cc h3,aa]
   cases hs:t.Shaped with
   | true=>simp
   | false=>
    by_cases hz:t.aE.length=0
    ·by_cases hn:(f.aB.length:Int)=(t.Kids.length:Int)
     ·simp[hz,hn]
     ·have:((f.aB.length:Int) !=(t.Kids.length:Int))=true:=by simpa using hn
      simp[hz,hn,this]
    ·simp[hz]
 ·have e0:((cY t.Name).Kind==0)=false:=by simpa using hk
  obtain⟨b,_,hb,_⟩:=wT 0 t.Name
  obtain⟨_,_,b3,_⟩:=hb (by simpa using hk)
  rw[e0,cond_false,if_neg hk,Lo hD hdl hdl2 hf hl]
  have e1:(cond (!(t.Shaped==(cY t.Name).Shaped)) (some true) (cond ((t.aE.length:Int) !=(cY t.Name).aE) (some ((t.aE.length:Int) !=(cY t.Name).l5)) (some false)):Option Bool)=
    some (decide ((t.Shaped==(cY t.Name).Shaped)=false∨((t.aE.length:Int)==(cY t.Name).aE||(t.aE.length:Int)==(cY t.Name).l5)=false)):=by
   simp only[bne]
   generalize (t.Shaped==(cY t.Name).Shaped)=a
   generalize ((t.aE.length:Int)==(cY t.Name).aE)=b
   generalize ((t.aE.length:Int)==(cY t.Name).l5)=c
   cases a <;> cases b <;> cases c <;> rfl
  rw[e1]
  simp only[aa]
  by_cases h7:(t.Shaped==(cY t.Name).Shaped)=false∨((t.aE.length:Int)==(cY t.Name).aE||(t.aE.length:Int)==(cY t.Name).l5)=false
  ·rw[decide_eq_true h7,cond_true,if_pos h7]
  ·rw[decide_eq_false h7,cond_false,if_neg h7]
   have e2:(cond (decide ((cY t.Name).kT≥0)) (cond ((t.Kids.length:Int) !=(cY t.Name).kT) (some true) (some ((t.Kids.length:Int)==0))) (some ((t.Kids.length:Int)==0)):Option Bool)=
     some (decide (((cY t.Name).kT≥0∧(t.Kids.length:Int)≠(cY t.Name).kT)∨t.Kids.length=0)):=by
    have e3:((t.Kids.length:Int)==0)=decide (t.Kids.length=0):=by rw[eD];simp
    have e4:((t.Kids.length:Int) !=(cY t.Name).kT)=decide ((t.Kids.length:Int)≠(cY t.Name).kT):=by rw[eD];simp
    rw[e3,e4]
    by_cases g1:(cY t.Name).kT≥0 <;> by_cases g2:(t.Kids.length:Int)≠(cY t.Name).kT <;> by_cases g3:t.Kids.length=0 <;> simp[g1,g2,g3] <;> omega
   rw[e2]
   simp only[aa]
   by_cases h2:((cY t.Name).kT≥0∧(t.Kids.length:Int)≠(cY t.Name).kT)∨t.Kids.length=0
   ·rw[decide_eq_true h2,cond_true,if_pos h2]
   ·rw[decide_eq_false h2,cond_false,if_neg h2]
    cases pG D t.Shape <;> rfl
theorem zK {dims:List ByteArray}{q:List bB}{D:lL}(hD:CT dims D) (hdl2:dims.length≤4194304) (hq2:q.length≤1048576):∀(N:Nat) (t:ai),bD t≤N→∀(fu:Nat) (known:List ByteArray),bD t+known.length+dims.length+q.length+10<fu→bD t+known.length≤2097152→bD t≤1048576→
  F.eA fu t known dims q=some (jo D (Am q) t fun n=>known.any fun x=>cr x n)
 | 0,t,h,_,_,_,_,_=>by have:=dS t;omega
 | N+1,t,hN,0,_,hf,_,_=>by omega
 | N+1,t,hN,fu+1,known,hf,hkn,hw=>by
  have hwt:=lE t
  have hkl:t.Kids.length≤(t.Kids.map bD).sum:=dI (w:=bD) (fun x=>by have:=dS x;omega) t.Kids
  have hsl:t.Shape.length≤(t.Shape.map dP).sum:=dI (w:=dP) (fun x=>by unfold dP;omega) t.Shape
  unfold bu at hwt
  show F.nu (F.eA fu) (fu+1) t known dims q=_
  unfold F.nu
  rw[KJ]
  unfold N6
  have hkids:∀(K:lL) (v:Int),(fun n=>known.any fun x=>cr x n)=K→aW (F.fh (F.eA fu) (fu+1) t known dims q) (fu+1) (v,0)=
    some (if ji t K 0 (t.Kids.map (jo D (Am q)))=0 then .bw () else .ret (ji t K 0 (t.Kids.map (jo D (Am q))))):=by
   intro K v hK
   obtain⟨r,h1,h2⟩:=dh (body:=F.fh (F.eA fu) (fu+1) t known dims q) t.Kids (fun k st=>st=(v,(k:Int))∧ji t K 0 (t.Kids.map (jo D (Am q)))=ji t K k ((t.Kids.drop k).map (jo D (Am q))))
    (fun r=>r=if ji t K 0 (t.Kids.map (jo D (Am q)))=0 then Ex.bw () else Ex.ret (ji t K 0 (t.Kids.map (jo D (Am q))))) (by
     rintro k x st hx ⟨rfl,hk⟩
     have hkk:=dR hx
     have hwx:=jy (mem_of hx)
     have hd:t.Kids.drop k=x::t.Kids.drop (k+1):=by
      rw[b9 hkk]
      congr 1
      exact dx ((ao hkk).symm.trans hx)
     rw[hd,az] at hk
     simp only[ji] at hk
     have hbody:F.fh (F.eA fu) (fu+1) t known dims q (v,(k:Int))=if jo D (Am q) x (nf t K k)=0 then some (.inl (v,((k+1:Nat):Int))) else some (.inr (.ret (jo D (Am q) x (nf t K k)))):=by
      have c1:cj (([]:List ByteArray).length+known.length≤maxLen∧(([]:List ByteArray).length+known.length)*16≤140737488355328)=some ():=ou ⟨by unfold maxLen;simp only[bQ];omega,by simp only[bQ];omega⟩
      have c2:cj ((([]:List ByteArray)++known).length+[t.Name].length≤maxLen∧((([]:List ByteArray)++known).length+[t.Name].length)*16≤140737488355328)=some ():=ou ⟨by unfold maxLen;simp only[jd,bl,bQ];omega,by simp only[jd,bl,bQ];omega⟩
      simp only[F.fh,dec_lt hx,cond_true,cc hx,aa,FT,gT,c1,c2,Af,JM,gF hkk (show t.Kids.length≤9223372036854775807 by omega)]
      by_cases hc:k=1∧(t.Kind=5∨t.Kind=6)
      ·have:=zK hD hdl2 hq2 N x (by omega) fu (([]++known)++[t.Name]) (by simp only[jd,al,bl,bQ];omega) (by simp only[jd,al,bl,bQ];omega) (by omega)
       have e:nf t K k=fun n=>(([]++known)++[t.Name]).any fun x=>cr x n:=by
        unfold nf
        rw[if_pos hc,←hK]
        funext n
        simp only[jd,fk,cG,fH,di]
        exact qa _ _
       rw[decide_eq_true hc,cond_true,e]
       simp only[aa,this]
       generalize jo D (Am q) x _=E
       by_cases hE:E=0
       ·rw[if_pos hE,hE];rfl
       ·have:(E !=0)=true:=by simpa using hE
        rw[if_neg hE,this];rfl
      ·have:=zK hD hdl2 hq2 N x (by omega) fu known (by omega) (by omega) (by omega)
       have e:nf t K k=fun n=>known.any fun x=>cr x n:=by
        unfold nf
        rw[if_neg hc,←hK]
       rw[decide_eq_false hc,cond_false,e]
       simp only[aa,this]
       generalize jo D (Am q) x _=E
       by_cases hE:E=0
       ·rw[if_pos hE,hE];rfl
       ·have:(E !=0)=true:=by simpa using hE
        rw[if_neg hE,this];rfl
     rw[hbody]
     by_cases hE:jo D (Am q) x (nf t K k)=0
     ·rw[if_pos hE] at hk⊢
      exact .inl ⟨_,rfl,rfl,hk⟩
     ·rw[if_neg hE] at hk⊢
      refine .inr ⟨_,rfl,?_⟩
      rw[hk,if_neg hE]) (by
     rintro st ⟨rfl,hk⟩
     rw[jx] at hk
     have hk:ji t K 0 (t.Kids.map (jo D (Am q)))=0:=hk
     refine⟨.bw (),by simp only[F.fh,dj,cond_false],?_⟩
     rw[if_pos hk]) t.Kids.length 0 (fu+1) (v,0) (by omega) (by omega) (by omega) ⟨rfl,rfl⟩
   rw[h1,h2]
  have hfin:∀(K:lL) (v:Int),(fun n=>known.any fun x=>cr x n)=K→(br (fun r=>r) (aW (F.fh (F.eA fu) (fu+1) t known dims q) (fu+1) (v,0):Option (Ex Unit Int)) fun (_:Unit)=>some 0)=some (ji t K 0 (t.Kids.map (jo D (Am q)))):=by
   intro K v hK
   rw[hkids K v hK]
   by_cases hE:ji t K 0 (t.Kids.map (jo D (Am q)))=0
   ·rw[if_pos hE,hE];rfl
   ·rw[if_neg hE];rfl
  have e2:(t.Kind==2)=decide (t.Kind=2):=by rw[eD];simp
  have e3:(t.Kind==3)=decide (t.Kind=3):=by rw[eD];simp
  rw[e2,e3,Jc (by omega) (by omega)]
  by_cases h2:t.Kind=2
  ·have h3:¬(t.Kind=3):=fun h=>by omega
   rw[decide_eq_true h2,decide_eq_false h3,cond_true]
   simp only[aa]
   by_cases hq:(known.any fun x=>cr x t.Name)=true
   ·rw[if_neg (fun h=>by have:=h.2;simp only[hq] at this;cases this),if_neg (fun h=>h3 h.1),hq]
    exact hfin _ 0 rfl
   ·have hq:=gE.2 hq
    rw[if_pos ⟨h2,hq⟩,hq]
    rfl
  ·rw[decide_eq_false h2,cond_false,if_neg (fun h=>h2 h.1)]
   simp only[aa,cond_false]
   by_cases h3:t.Kind=3
   ·have hcall:=Lu (fu:=fu+1) (t:=t) (q:=q) hD (by omega) hdl2 (by omega) hq2 (by omega) (by omega)
    rw[decide_eq_true h3,cond_true]
    simp only[gT,hcall,aa]
    by_cases hE:ov D (Am q) t=0
    ·rw[if_neg (fun h=>h.2 hE),hE]
     exact hfin _ 0 rfl
    ·have:(ov D (Am q) t !=0)=true:=by simpa using hE
     rw[if_pos ⟨h3,hE⟩,this]
     rfl
   ·rw[decide_eq_false h3,cond_false,if_neg (fun h=>h3 h.1)]
    exact hfin _ 0 rfl
theorem Jx {fu:Nat}{g:eT}(hf:g.cV.length<fu) (hl:g.cV.length≤1048576) (m:List ByteArray) (hm:m.length+g.cV.length≤2097152):∃m',aW (F.iR fu g) fu (0,m)=some m'∧m'.length≤m.length+g.cV.length∧∀n,cr n (ByteArray.mk #[])=false→(m'.any fun x=>cr x n)=((m.any fun x=>cr x n)||g.cV.any fun d=>cr d.Name n):=by
 obtain⟨r,h1,h2⟩:=dh (body:=F.iR fu g) g.cV (fun k st=>∃m',st=((k:Int),m')∧m'.length≤m.length+k∧∀n,cr n (ByteArray.mk #[])=false→(m'.any fun x=>cr x n)=((m.any fun x=>cr x n)||(g.cV.take k).any fun d=>cr d.Name n)) (fun m'=>m'.length≤m.length+g.cV.length∧∀n,cr n (ByteArray.mk #[])=false→(m'.any fun x=>cr x n)=((m.any fun x=>cr x n)||g.cV.any fun d=>cr d.Name n)) (by
  rintro k x st hx ⟨m',rfl,hml,hmm⟩
  have hk:=dR hx
  have e:(x.Name.toList==(ByteArray.mk #[]).toList)=cr x.Name (ByteArray.mk #[]):=rfl
  have c:cj (m'.length+[x.Name].length≤maxLen∧(m'.length+[x.Name].length)*16≤140737488355328)=some ():=ou ⟨by unfold maxLen;simp only[bl,bQ];omega,by simp only[bl,bQ];omega⟩
  refine .inl ⟨((k+1:Nat),if cr x.Name (ByteArray.mk #[])=true then m' else m'++[x.Name]),?_,_,rfl,?_,fun n hn=>?_⟩
  ·simp only[F.iR,dec_lt hx,cond_true,cc hx,aa,gF hk (show g.cV.length≤9223372036854775807 by omega),e,c]
   cases cr x.Name (ByteArray.mk #[]) <;> rfl
  ·split
   ·omega
   ·simp only[al,bl,bQ];omega
  ·rw[dD,hx]
   simp only[mb,fk,cG,fH,di]
   split
   ·rename_i he
    have:cr x.Name n=false:=by
     cases hq:cr x.Name n with
     | false=>rfl
     | true=>rw[←mY.1 hq,he] at hn;cases hn
    rw[hmm n hn,this,di]
   ·rw[fk,hmm n hn]
    simp only[cG,fH,di,kA]) (by
  rintro st ⟨m',rfl,hml,hmm⟩
  rw[kC] at hmm
  exact⟨m',by simp only[F.iR,dj,cond_false],hml,hmm⟩) g.cV.length 0 fu (0,m) (by omega) (by omega) hf ⟨m,rfl,by omega,fun n _=>by simp⟩
 exact⟨r,h1,h2⟩
def rn (gs:List eT):Nat:=(gs.map fun g=>g.cV.length).sum
theorem G8 {fu:Nat}{f:bB}{v:Int}(hf:f.aB.length<fu) (hl:f.aB.length≤1048576) (hds:rn f.aB≤1048576) (hdf:rn f.aB<fu):
  ∃r,aW (F.gv fu f) fu (v,0,([]:List ByteArray),([]:List ByteArray))=some r∧
   if ng (fun _=>false) f.aB=true then r=.ret (.inr (.ret 8)) else ∃dims known,r=.bw (v,dims,known)∧dims.length≤rn f.aB∧known.length=f.aB.length∧(∀n,(known.any fun x=>cr x n)=Km f.aB n)∧CT dims (Dm f.aB):=by
 obtain⟨r,h1,h2⟩:=dh (body:=F.gv fu f) f.aB (fun k st=>∃dims known,st=(v,(k:Int),dims,known)∧dims.length≤rn (f.aB.take k)∧known.length=k∧(∀n,(known.any fun x=>cr x n)=Km (f.aB.take k) n)∧CT dims (Dm (f.aB.take k))∧ng (fun _=>false) f.aB=ng (Km (f.aB.take k)) (f.aB.drop k))
   (fun r=>if ng (fun _=>false) f.aB=true then r=.ret (.inr (.ret 8)) else ∃dims known,r=.bw (v,dims,known)∧dims.length≤rn f.aB∧known.length=f.aB.length∧(∀n,(known.any fun x=>cr x n)=Km f.aB n)∧CT dims (Dm f.aB)) (by
  rintro k x st hx ⟨dims,known,rfl,hdl,hkl,hK,hD,hdup⟩
  have hk:=dR hx
  have hdr:f.aB.drop k=x::f.aB.drop (k+1):=by
   rw[b9 hk]
   congr 1
   exact dx ((ao hk).symm.trans hx)
  have htk:f.aB.take (k+1)=f.aB.take k++[x]:=by rw[dD,hx];rfl
  have hsum:rn (f.aB.take k)+x.cV.length≤rn f.aB:=by
   have e:f.aB=f.aB.take k++x::f.aB.drop (k+1):=by rw[←hdr,List.take_append_drop]
   unfold rn
   conv=>rhs;rw[e]
   rw[gk,List.sum_append,az,iy]
   omega
  have hsum2:rn (f.aB.take (k+1))=rn (f.aB.take k)+x.cV.length:=by
   rw[htk]
   unfold rn
   rw[gk,List.sum_append]
   simp
  rw[hdr] at hdup
  simp only[ng] at hdup
  have hin:=Jc (fu:=fu) (l:=known) (n:=x.Name) (by omega) (by omega)
  rw[hK] at hin
  cases hq:Km (f.aB.take k) x.Name with
  | true=>
   rw[hq] at hin hdup
   refine .inr ⟨.ret (.inr (.ret 8)),?_,?_⟩
   ·simp only[F.gv,dec_lt hx,cond_true,cc hx,aa,hin]
   ·rw[hdup,Bool.true_or,if_pos rfl]
  | false=>
   rw[hq,fx] at hdup
   rw[hq] at hin
   obtain⟨m',hm1,hm2,hm3⟩:=Jx (fu:=fu) (g:=x) (by omega) (by omega) dims (by omega)
   have c:cj (known.length+[x.Name].length≤maxLen∧(known.length+[x.Name].length)*16≤140737488355328)=some ():=ou ⟨by unfold maxLen;simp only[bl,bQ];omega,by simp only[bl,bQ];omega⟩
   refine .inl ⟨(v,((k+1:Nat):Int),m',known++[x.Name]),?_,m',known++[x.Name],rfl,by omega,by simp[hkl],fun n=>?_,fun n hn=>?_,?_⟩
   ·simp only[F.gv,dec_lt hx,cond_true,cc hx,aa,hin,cond_false,c,hm1,gF hk (show f.aB.length≤9223372036854775807 by omega)]
   ·rw[fk,hK,htk]
    unfold Km
    simp only[fk,cG,fH,di]
   ·rw[hm3 n hn,hD n hn,htk]
    unfold Dm
    simp only[fk,cG,fH,di]
   ·rw[hdup]
    refine Bp (fun n=>?_) _
    rw[htk]
    unfold Km
    simp only[fk,cG,fH,di]
    rw[qa]) (by
  rintro st ⟨dims,known,rfl,hdl,hkl,hK,hD,hdup⟩
  rw[jx] at hdup
  rw[kC] at hK hD hdl
  have hdup:ng (fun _=>false) f.aB=false:=hdup
  refine⟨.bw (v,dims,known),by simp only[F.gv,dj,cond_false],?_⟩
  rw[hdup,if_neg (by simp)]
  exact⟨dims,known,rfl,hdl,hkl,hK,hD⟩) f.aB.length 0 fu _ (by omega) (by omega) hf ⟨[],[],rfl,ar _,rfl,fun n=>rfl,fun n _=>rfl,Bp (fun n=>rfl) _⟩
 exact⟨r,h1,h2⟩
theorem Pv {gs:List eT}:rn gs≤(gs.map eO).sum:=by
 induction gs with
 | nil=>exact ar _
 | cons g r ih=>
  have h2:g.cV.length≤(g.cV.map dP).sum:=dI (w:=dP) (fun x=>by unfold dP;omega) g.cV
  have h3:eO g=gM g.Name+((g.cV.map dP).sum+1)+1:=rfl
  unfold rn at ih⊢
  rw[az,iy,az,iy]
  omega
theorem AU {α:Type}{l:List α}{k:Nat}(h:k≤l.length):iJ l 0 (k:Int)=l.take k:=by
 unfold iJ
 simp
theorem JR {fu:Nat}{p:List bB}(hf:4*bu eI p+60<fu) (hw:bu eI p≤1048576) (ho:De p):F.lP fu p=some (if (lq p).2=0 then fY [] p else(lq p).2):=by
 have hpl:p.length≤(p.map eI).sum:=dI (w:=eI) (fun x=>by unfold eI gM;omega) p
 have hwl:bu eI p=(p.map eI).sum+1:=rfl
 unfold F.lP
 rw[KD hf hw ho]
 simp only[aa]
 by_cases he:(lq p).2=0
 ·have e0:((lq p).2 !=0)=false:=by simpa using he
  rw[e0,cond_false,if_pos he]
  obtain⟨r,h1,h2⟩:=dh (body:=F.gu fu p) p (fun k st=>st=(0,(k:Int))∧fY [] p=fY (p.take k) (p.drop k)) (fun r=>r=if fY [] p=0 then .bw () else .ret (fY [] p)) (by
   rintro k f st hx ⟨rfl,hS⟩
   have hk:=dR hx
   have hdr:p.drop k=f::p.drop (k+1):=by
    rw[b9 hk]
    congr 1
    exact dx ((ao hk).symm.trans hx)
   rw[hdr] at hS
   simp only[fY] at hS
   have htk:p.take (k+1)=p.take k++[f]:=by rw[dD,hx];rfl
   have hwf:eI f≤(p.map eI).sum:=pE (mem_of hx)
   have hgl:f.aB.length≤(f.aB.map eO).sum:=dI (w:=eO) (fun x=>by unfold eO;omega) f.aB
   have hwf2:eI f=gM f.Name+((f.aB.map eO).sum+1)+bD f.Body+1:=rfl
   have hds:=Pv (gs:=f.aB)
   have htl:(p.take k).length≤p.length:=by rw[bH];omega
   have c0:cj ((0:Int)≤(k:Int)∧(k:Int)≤(p.length:Int))=some ():=ou ⟨by omega,by omega⟩
   obtain⟨i,hi1,hi2⟩:=F6 (fu:=fu) (p:=p.take k) (n:=f.Name) (by omega) (by omega)
   have hi:decide (i≥0)=(ir (p.take k) f.Name).isSome:=by
    cases hq:ir (p.take k) f.Name with
    | none=>rw[hq] at hi2;have hi2:i=-1:=hi2;subst hi2;rfl
    | some g=>rw[hq] at hi2;obtain⟨j,rfl,_⟩:=hi2;exact decide_eq_true (by omega)
   have e9:((F.dZ fu f.Name).bind fun (r7:gU)=>
     cond (r7.Kind !=0) (some true) ((cj ((0:Int)≤(k:Int)∧(k:Int)≤(p.length:Int))).bind fun _=>
     (F.jD fu (iJ p 0 (k:Int)) f.Name).bind fun (r8:Int)=>some (decide (r8≥0))))=some (decide ((cY f.Name).Kind≠0∨(ir (p.take k) f.Name).isSome=true)):=by
    rw[Kt]
    simp only[aa,c0,AU (Nat.le_of_lt hk),hi1,hi]
    by_cases hr:(cY f.Name).Kind=0
    ·have:((cY f.Name).Kind !=0)=false:=by simpa using hr
     rw[this,cond_false]
     cases (ir (p.take k) f.Name).isSome <;> simp[hr]
    ·have:((cY f.Name).Kind !=0)=true:=by simpa using hr
     rw[this,cond_true,decide_eq_true (.inl hr)]
   have hE:∀(E:Int),E≠0→fY [] p=E→(Ex.ret E:Ex Unit Int)=if fY [] p=0 then .bw () else .ret (fY [] p):=fun E h0 h=>by rw[h,if_neg h0]
   by_cases h8:(cY f.Name).Kind≠0∨(ir (p.take k) f.Name).isSome=true
   ·have hF:kr (p.take k) f=8:=if_pos h8
    rw[hF,if_neg (by decide)] at hS
    refine .inr ⟨.ret 8,?_,hE 8 (by decide) hS⟩
    simp only[F.gu,dec_lt hx,cond_true,cc hx]
    rw[aa,e9,decide_eq_true h8]
    rfl
   ·obtain⟨r,g1,g2⟩:=G8 (fu:=fu) (f:=f) (v:=0) (by omega) (by omega) (by omega) (by omega)
    have hbody:F.gu fu p (0,(k:Int))=br (fun r=>r) (some r:Option (Ex (Int×(List ByteArray)×(List ByteArray)) ((Int×Int)⊕(Ex Unit Int)))) fun ((v21,m22,m23):Int×(List ByteArray)×(List ByteArray))=>
      (F.eA fu f.Body m23 m22 (p.take k)).bind fun (r24:Int)=>
      cond (r24 !=0) (some (.inr (.ret r24))) (some (.inl (v21,((k+1:Nat):Int)))):=by
     simp only[F.gu,dec_lt hx,cond_true,cc hx]
     rw[aa,e9,decide_eq_false h8]
     simp only[aa,cond_false,g1,c0,AU (Nat.le_of_lt hk),gT,gF hk (show p.length≤9223372036854775807 by omega)]
    rw[hbody]
    cases hdup:ng (fun _=>false) f.aB with
    | true=>
     have hF:kr (p.take k) f=8:=by
      unfold kr
      rw[if_neg h8,hdup,if_pos rfl]
     rw[hF,if_neg (by decide)] at hS
     rw[hdup,if_pos rfl] at g2
     subst g2
     exact .inr ⟨_,rfl,hE 8 (by decide) hS⟩
    | false=>
     rw[hdup,if_neg (by simp)] at g2
     obtain⟨dims,known,rfl,hdl,hkl,hK,hD⟩:=g2
     have ht:=zK (dims:=dims) (q:=p.take k) hD (by omega) (by omega) _ f.Body (ar _) fu known (by omega) (by omega) (by omega)
     rw[show(fun n=>known.any fun x=>cr x n)=Km f.aB from funext hK] at ht
     have hF:kr (p.take k) f=jo (Dm f.aB) (Am (p.take k)) f.Body (Km f.aB):=by
      unfold kr
      rw[if_neg h8,hdup,if_neg (by simp)]
     rw[←hF] at ht
     simp only[br,ht,aa]
     by_cases h0:kr (p.take k) f=0
     ·rw[if_pos h0] at hS
      rw[h0]
      exact .inl ⟨_,rfl,rfl,by rw[htk];exact hS⟩
     ·rw[if_neg h0] at hS
      have:(kr (p.take k) f !=0)=true:=by simpa using h0
      rw[this]
      exact .inr ⟨_,rfl,hE _ h0 hS⟩) (by
   rintro st ⟨rfl,hS⟩
   rw[jx] at hS
   have hS:fY [] p=0:=hS
   exact⟨.bw (),by simp only[F.gu,dj,cond_false],by rw[hS,if_pos rfl]⟩) p.length 0 fu (0,0) (by omega) (by omega) (by omega) ⟨rfl,rfl⟩
  rw[h1,h2]
  by_cases h0:fY [] p=0
  ·rw[if_pos h0,h0];rfl
  ·rw[if_neg h0];rfl
 ·have e0:((lq p).2 !=0)=true:=by simpa using he
  rw[e0,cond_true,if_neg he]
theorem E2 {fu:Nat}{p:List bB}(hf:4*bu eI p+60<fu) (hw:bu eI p≤1048576) (ho:De p):F.jI fu p=some true:=by
 unfold F.jI F.uW
 rw[JS hf hw ho,JR hf hw ho]
 simp
end Go.DN
