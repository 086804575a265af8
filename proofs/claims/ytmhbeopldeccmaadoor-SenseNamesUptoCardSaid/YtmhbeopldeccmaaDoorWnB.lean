/-
  Sense, names: the plain law: the program's side.
-/
import Derived.Test.YtmhbeopldeccmaaDoorWnA
set_option maxRecDepth 20000
set_option linter.unusedVariables false
set_option linter.unusedSimpArgs false
namespace Go.DN
open Go.AM
def GR:List ByteArray→Option cM→Prop
 | [],s=>s=none
 | n::r,s=>∃x,s=some x∧x.name=n∧GR r x.next
theorem DB (fu:Nat) (n:ByteArray):∀(l:List ByteArray) (s:Option cM) (m:Nat) (v:Int) (b:Bool),GR l s→l.length<m→
  ∃r,aW (F.jL fu n) m (v,b,s)=some r∧(match r with | .bw _=>l.any (fun x=>cr x n)=false | .ret q=>q.2=true∧l.any (fun x=>cr x n)=true)
 | [],s,m+1,v,b,h,_=>by
  obtain rfl:s=none:=h
  exact⟨.bw (v,b),by simp only[aW,F.jL,Option.isNone_none,dL,cond_false],rfl⟩
 | x::r,s,m+1,v,b,h,hm=>by
  obtain⟨y,rfl,rfl,h2⟩:=h
  have e:(y.name.toList==n.toList)=cr y.name n:=rfl
  cases hx:cr y.name n with
  | true=>exact⟨.ret (y.value,true),by simp only[aW,F.jL,Option.isNone_some,eE,cond_true,aa,e,hx],rfl,by rw[cG,hx];rfl⟩
  | false=>
   obtain⟨q,h3,h4⟩:=DB fu n r y.next m v b h2 (by simpa using hm)
   refine⟨q,?_,?_⟩
   ·simp only[aW,F.jL,Option.isNone_some,eE,cond_true,aa,e,hx,cond_false]
    exact h3
   ·rw[cG,hx,fx];exact h4
theorem HL {fu:Nat}{n:ByteArray}{l:List ByteArray}{s:Option cM}(h:GR l s) (hf:l.length<fu):∃v,F.jV fu s n=some (v,l.any (fun x=>cr x n)):=by
 obtain⟨r,h1,h2⟩:=DB fu n l s fu 0 false h hf
 unfold F.jV
 rw[h1]
 cases r with
 | bw q=>exact⟨0,by rw[h2];rfl⟩
 | ret q=>obtain⟨q1,q2⟩:=q;obtain⟨h3,h4⟩:=h2;exact⟨q1,by rw[h4];simp only at h3;subst h3;rfl⟩
abbrev RM:=(ap×ap)⊕((Int×Int)×(ap×ap))
def mj (e:Int) (m2 m3:ap):RM:=if e=0 then .inl (m2,m3) else .inr ((e,0),(m2,m3))
def CS (m:ap) (A:ByteArray→Option Int):Prop:=∀n,du m.Es n=(A n).isSome∧ik m.Es n=(A n).getD 0
def NX (m:ap) (D:lL):Prop:=∀n,cr n (ByteArray.mk #[])=false→du m.Es n=D n
theorem fX {γ:Type}{b:Bool}{e:Int}{f:Unit→Option γ}{g:(Int×Int)×Unit→Option γ}:aV (dX b e) f g=cond b (f ()) (g ((e,0),())):=by cases b <;> rfl
theorem Ld {fu:Nat}{t:ai}{b:dN}(hf:b.lists.length<fu) (hl:b.lists.length≤2):aW (F.li fu t b) fu (false,0)=some (b.lists.any fun l=>l==(t.aE.length:Int)):=by
 rw[uw (σ:=Bool) b.lists (fun s i=>(s,i)) (fun s x=>some (.inl (s||x==(t.aE.length:Int)))) (fun s=>s) ?_ ?_ fu hf false]
 ·have key:∀(l:List Int) (s:Bool),pb (fun s x=>some (.inl (s||x==(t.aE.length:Int)))) (fun s=>s) s l=some (s||l.any fun l=>l==(t.aE.length:Int)):=by
   intro l
   induction l with
   | nil=>intro s;simp[pb]
   | cons x r ih=>intro s;simp only[pb,ih,cG,kA]
  rw[key];rfl
 ·intro s k x hx
  have hk:=dR hx
  simp only[F.li,dec_lt hx,cond_true,cc hx,aa,gF hk (by omega)]
  cases s <;> rfl
 ·intro s
  simp only[F.li,dj,cond_false]
theorem Nq {fu:Nat}{t:ai}{m2 m3:ap}{D:lL}(hD:NX m3 D) (hf:t.Shape.length<fu) (hl:t.Shape.length≤1048576):
  aW (F.hJ fu t m2 m3) fu 0=some (if pG D t.Shape=true then .bw () else .ret (.inr ((8,0),(m2,m3)))):=by
 rw[uw (σ:=Unit) t.Shape (fun _ i=>i) (fun _ d=>if (cr d.Name (ByteArray.mk #[])||D d.Name)=true then some (.inl ()) else some (.inr (.ret (.inr ((8,0),(m2,m3)))))) (fun _=>.bw ()) ?_ ?_ fu hf ()]
 ·unfold pG
  generalize t.Shape=l
  induction l with
  | nil=>rfl
  | cons d r ih=>
   simp only[pb,List.all_cons]
   by_cases hq:(cr d.Name (ByteArray.mk #[])||D d.Name)=true
   ·simp only[hq,if_true,lD];exact ih
   ·simp only[gE.2 hq,Bool.false_and,gV,if_false]
 ·intro s k x hx
  have hk:=dR hx
  have e:(x.Name.toList==(ByteArray.mk #[]).toList)=cr x.Name (ByteArray.mk #[]):=rfl
  simp only[F.hJ,dec_lt hx,cond_true,cc hx,aa,gF hk (by omega),e,fX]
  cases he:cr x.Name (ByteArray.mk #[]) with
  | true=>rfl
  | false=>
   rw[hD x.Name he]
   cases D x.Name <;> rfl
 ·intro s
  simp only[F.hJ,dj,cond_false]
theorem Nz {fu:Nat}{t:ai}{m2 m3:ap}{D:lL}{A:ByteArray→Option Int}(hA:CS m2 A) (hD:NX m3 D) (hf:t.Shape.length+3<fu) (hl:t.Shape.length≤1048576):
  F.nw fu t m2 m3=some (mj (ov D A t) m2 m3):=by
 obtain⟨b,h1,h2,h3⟩:=wT fu t.Name
 unfold F.nw ov
 rw[h1]
 simp only[aa]
 cases hk:(cY t.Name).Kind !=0 with
 | false=>
  have hk0:(cY t.Name).Kind=0:=by simpa using hk
  rw[if_pos hk0,cond_false]
  obtain⟨a1,a2⟩:=hA t.Name
  rw[a1,a2,fX]
  cases hq:A t.Name with
  | none=>rfl
  | some n=>
   simp only[Option.isSome_some,cond_true,Option.getD_some]
   have e7:((t.aE.length:Int)==0)=decide (t.aE.length=0):=by rw[eD];simp
   rw[e7]
   cases hs:t.Shaped with
   | true=>simp[fX,mj]
   | false=>
    by_cases hl0:t.aE.length=0
    ·by_cases hn:n=(t.Kids.length:Int)
     ·simp[fX,mj,hl0,hn]
     ·have:(n==(t.Kids.length:Int))=false:=by simpa using hn
      simp[fX,mj,hl0,hn,this]
    ·simp[fX,mj,hl0]
 | true=>
  obtain⟨b1,b2,b3,b4⟩:=h2 hk
  have hk0:¬(cY t.Name).Kind=0:=by simpa using hk
  rw[if_neg hk0,cond_true,Ld (by omega) h3,b4]
  simp only[aa]
  have e3:F.rK fu t m2 m3=F.hJ fu t m2 m3:=rfl
  have e4:F.rJ fu t m2 m3=F.hJ fu t m2 m3:=rfl
  rw[e3,e4,b1,b2,Nq hD (by omega) hl]
  generalize ((t.aE.length:Int)==(cY t.Name).aE||(t.aE.length:Int)==(cY t.Name).l5)=ff
  generalize (t.Shaped==(cY t.Name).Shaped)=sh
  cases ff with
  | false=>simp[fX,mj]
  | true=>
   cases sh with
   | false=>simp[fX,mj]
   | true=>
    simp only[fX,cond_true]
    generalize (cY t.Name).kT=a at b3
    by_cases ha:a=(t.Kids.length:Int)
    ·have h0:¬((a≥0∧(t.Kids.length:Int)≠a)∨t.Kids.length=0):=by
      rcases b3 with h | h <;> omega
     have e5:(a==(t.Kids.length:Int))=true:=by simpa using ha
     rw[e5,cond_true,if_neg h0]
     cases pG D t.Shape <;> simp[br,mj]
    ·have e5:(a==(t.Kids.length:Int))=false:=by simpa using ha
     rw[e5,cond_false]
     by_cases hn:a<0
     ·rw[decide_eq_true hn,cond_true]
      by_cases hz:t.Kids.length=0
      ·have:decide ((t.Kids.length:Int)>0)=false:=decide_eq_false (by omega)
       rw[this,cond_false]
       simp[mj,hz]
      ·have h0:¬((a≥0∧(t.Kids.length:Int)≠a)∨t.Kids.length=0):=by omega
       have:decide ((t.Kids.length:Int)>0)=true:=decide_eq_true (by omega)
       rw[this,cond_true,if_neg h0]
       cases pG D t.Shape <;> simp[br,mj]
     ·rw[decide_eq_false hn,cond_false,cond_false]
      have h0:((a≥0∧(t.Kids.length:Int)≠a)∨t.Kids.length=0):=.inl ⟨by omega,fun e=>ha e.symm⟩
      rw[if_pos h0];rfl
theorem FT (t:ai) (k:Nat):(cond ((k:Int)==1) (cond (t.Kind==5) (some true) (some (t.Kind==6))) (some false):Option Bool)=some (decide (k=1∧(t.Kind=5∨t.Kind=6))):=by
 have e:((k:Int)==1)=decide (k=1):=by rw[eD];simp;omega
 have e5:(t.Kind==5)=decide (t.Kind=5):=by rw[eD];simp
 have e6:(t.Kind==6)=decide (t.Kind=6):=by rw[eD];simp
 rw[e,e5,e6]
 by_cases h1:k=1 <;> by_cases h5:t.Kind=5 <;> by_cases h6:t.Kind=6 <;> simp[h1,h5,h6]
theorem zp {m2 m3:ap}{D:lL}{A:ByteArray→Option Int}(hA:CS m2 A) (hD:NX m3 D):∀(N:Nat) (t:ai),bD t≤N→∀(fu:Nat) (s:Option cM) (l:List ByteArray),bD t+l.length+10<fu→bD t≤1048576→GR l s→
  F.dG fu t s m2 m3=some (mj (jo D A t fun n=>l.any fun x=>cr x n) m2 m3)
 | 0,t,h,_,_,_,_,_,_=>by have:=dS t;omega
 | N+1,t,hN,0,_,_,hf,_,_=>by omega
 | N+1,t,hN,fu+1,s,l,hf,hw,hs=>by
  have hwt:=lE t
  have hkl:t.Kids.length≤(t.Kids.map bD).sum:=dI (w:=bD) (fun x=>by have:=dS x;omega) t.Kids
  have hsl:t.Shape.length≤(t.Shape.map dP).sum:=dI (w:=dP) (fun x=>by unfold dP;omega) t.Shape
  unfold bu at hwt
  show F.oB (F.dG fu) (fu+1) t s m2 m3=_
  unfold F.oB
  rw[KJ]
  unfold N6
  have hkids:∀(K:lL),(fun n=>l.any fun x=>cr x n)=K→aW (F.fV (F.dG fu) (fu+1) t s) (fu+1) (0,m2,m3)=
    some (if ji t K 0 (t.Kids.map (jo D A))=0 then .bw (m2,m3) else .ret (.inr ((ji t K 0 (t.Kids.map (jo D A)),0),(m2,m3)))):=by
   intro K hK
   obtain⟨r,h1,h2⟩:=dh (body:=F.fV (F.dG fu) (fu+1) t s) t.Kids (fun k st=>st=((k:Int),m2,m3)∧ji t K 0 (t.Kids.map (jo D A))=ji t K k ((t.Kids.drop k).map (jo D A)))
    (fun r=>r=if ji t K 0 (t.Kids.map (jo D A))=0 then Ex.bw (m2,m3) else Ex.ret (.inr ((ji t K 0 (t.Kids.map (jo D A)),0),(m2,m3)))) (by
     rintro k x st hx ⟨rfl,hk⟩
     have hkk:=dR hx
     have hwx:=jy (mem_of hx)
     have hd:t.Kids.drop k=x::t.Kids.drop (k+1):=by
      rw[b9 hkk]
      congr 1
      exact dx ((ao hkk).symm.trans hx)
     rw[hd,az] at hk
     simp only[ji] at hk
     have hrun:(br (fun r=>r) (cond (decide (k=1∧(t.Kind=5∨t.Kind=6)))
     ((F.iE (fu+1) s t.Name 0).bind fun (r54:Option cM)=>
     aV (F.dG fu x r54 m2 m3)
      (fun ((r55,r56):ap×ap)=>
       some (.bw (r55,r56)))
      (fun ((e57,e58),(r59,r60))=>
       some (.ret (.inr (.ret (.inr ((e57,0),(r59,r60))))))))
     (aV (F.dG fu x s m2 m3)
      (fun ((r61,r62):ap×ap)=>
       some (.bw (r61,r62)))
      (fun ((e63,e64),(r65,r66))=>
       some (.ret (.inr (.ret (.inr ((e63,0),(r65,r66)))))))):Option (Ex (ap×ap) ((Int×ap×ap)⊕(Ex (ap×ap) RM)))) fun ((m67,m68):ap×ap)=>
   some (.inl (IntKind.wrap .i64 ((k:Int)+1),m67,m68)))=if jo D A x (nf t K k)=0 then some (.inl (((k+1:Nat):Int),m2,m3)) else some (.inr (.ret (.inr ((jo D A x (nf t K k),0),(m2,m3))))):=by
      rw[gF hkk (by omega)]
      by_cases hc:k=1∧(t.Kind=5∨t.Kind=6)
      ·have:=zp hA hD N x (by omega) fu (some ⟨t.Name,0,s⟩) (t.Name::l) (by simp only[bl];omega) (by omega) ⟨_,rfl,rfl,hs⟩
       have e:nf t K k=fun n=>(t.Name::l).any fun x=>cr x n:=by
        unfold nf
        rw[if_pos hc,←hK]
        rfl
       rw[decide_eq_true hc,cond_true,e]
       unfold F.iE
       simp only[aa,this]
       generalize jo D A x _=E
       unfold mj
       by_cases hE:E=0
       ·rw[if_pos hE,if_pos hE];rfl
       ·rw[if_neg hE,if_neg hE];rfl
      ·have:=zp hA hD N x (by omega) fu s l (by omega) (by omega) hs
       have e:nf t K k=fun n=>l.any fun x=>cr x n:=by
        unfold nf
        rw[if_neg hc,←hK]
       rw[decide_eq_false hc,cond_false,e]
       simp only[this]
       generalize jo D A x _=E
       unfold mj
       by_cases hE:E=0
       ·rw[if_pos hE,if_pos hE];rfl
       ·rw[if_neg hE,if_neg hE];rfl
     have hbody:F.fV (F.dG fu) (fu+1) t s ((k:Int),m2,m3)=if jo D A x (nf t K k)=0 then some (.inl (((k+1:Nat):Int),m2,m3)) else some (.inr (.ret (.inr ((jo D A x (nf t K k),0),(m2,m3))))):=by
      rw[←hrun]
      simp only[F.fV,dec_lt hx,cond_true,cc hx,aa,FT,gT]
     rw[hbody]
     by_cases hE:jo D A x (nf t K k)=0
     ·rw[if_pos hE] at hk⊢
      exact .inl ⟨_,rfl,rfl,hk⟩
     ·rw[if_neg hE] at hk⊢
      refine .inr ⟨_,rfl,?_⟩
      rw[hk,if_neg hE]) (by
     rintro st ⟨rfl,hk⟩
     rw[jx] at hk
     have hk:ji t K 0 (t.Kids.map (jo D A))=0:=hk
     refine⟨.bw (m2,m3),by simp only[F.fV,dj,cond_false],?_⟩
     rw[if_pos hk]) t.Kids.length 0 (fu+1) (0,m2,m3) (by omega) (by omega) (by omega) ⟨rfl,rfl⟩
   rw[h1,h2]
  have hfin:∀(K:lL),(fun n=>l.any fun x=>cr x n)=K→(br (fun r=>r) (aW (F.fV (F.dG fu) (fu+1) t s) (fu+1) (0,m2,m3):Option (Ex (ap×ap) RM)) fun ((m69,m70):ap×ap)=>some (.inl (m69,m70)))=some (mj (ji t K 0 (t.Kids.map (jo D A))) m2 m3):=by
   intro K hK
   rw[hkids K hK]
   unfold mj
   by_cases hE:ji t K 0 (t.Kids.map (jo D A))=0
   ·rw[if_pos hE,if_pos hE];rfl
   ·rw[if_neg hE,if_neg hE];rfl
  have e2:(t.Kind==2)=decide (t.Kind=2):=by rw[eD];simp
  have e3:(t.Kind==3)=decide (t.Kind=3):=by rw[eD];simp
  rw[e2,e3]
  by_cases h2:t.Kind=2
  ·obtain⟨v,hv⟩:=HL (fu:=fu+1) (n:=t.Name) hs (by omega)
   rw[decide_eq_true h2,cond_true,hv]
   simp only[aa,fX]
   have h3:¬(t.Kind=3∧ov D A t≠0):=fun h=>by omega
   by_cases hq:(l.any fun x=>cr x t.Name)=true
   ·rw[if_neg (fun h=>by have:=h.2;simp only[hq] at this;cases this),if_neg h3,hq,cond_true]
    exact hfin _ rfl
   ·have hq:=gE.2 hq
    rw[if_pos ⟨h2,hq⟩,hq,cond_false]
    rfl
  ·rw[decide_eq_false h2,cond_false,if_neg (fun h=>h2 h.1)]
   by_cases h3:t.Kind=3
   ·have hcall:=Nz (fu:=fu+1) (t:=t) hA hD (by omega) (by omega)
    rw[decide_eq_true h3,cond_true]
    simp only[gT,hcall]
    by_cases hE:ov D A t=0
    ·have e:mj (ov D A t) m2 m3=.inl (m2,m3):=if_pos hE
     rw[e,if_neg (fun h=>h.2 hE)]
     exact hfin _ rfl
    ·have e:mj (ov D A t) m2 m3=.inr ((ov D A t,0),(m2,m3)):=if_neg hE
     rw[if_pos ⟨h3,hE⟩,e]
     rfl
   ·rw[decide_eq_false h3,cond_false,if_neg (fun h=>h3 h.1)]
    exact hfin _ rfl
end Go.DN
